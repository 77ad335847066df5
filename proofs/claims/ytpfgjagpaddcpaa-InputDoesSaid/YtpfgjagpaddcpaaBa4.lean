import Derived.Test.YtpfgjagpaddcpaaBa3
import Derived.Maps.AppendAt
/-! Texts that this law leans on, put together by a program of this session: Wd2 G1 G2. -/
/-! Wind, walked. -/
namespace Go.Proofs.Ytpfgjagpaddcpaa.Own
open Go.RowKit Go.Shelf Go.Proofs.YtpfgjagpaddcpaaW.PrintWords Go.Proofs.YtpfgjagpaddcpaaW.PrintLast Go.Proofs.YtpfgjagpaddcpaaW.PrintMore
open Go.Proofs.Ytpfgjagpaddcpaa.X
set_option linter.unusedVariables false
set_option linter.unusedSimpArgs false
attribute [local go_sem] Oper.semAt_some

/-- What Wind's own boxes hold when the edges es are over. -/
def WI (w : World) (x y : Int) (g9 : Nat) (es : List (S23 × S23)) (W : World) : Prop :=
  (Boxed W w.heap.size 3 (.int .i64 y) ∧ Boxed W (w.heap.size + 1) 3 (.int .i64 (wsum x y es)) ∧ Boxed W (w.heap.size + 1 + 1) 4 (.bool (es.any (onE x y))) ∧
    W.heap[w.heap.size + 1 + 1 + 1]? = some (.cells #[.int .i64 x, .int .i64 y] 23 (0, 0)) ∧ Boxed W g9 4 (.bool (okAll x y es))) ∧ Below w.heap.size w W ∧ w.heap.size + 1 + 1 + 1 < g9

theorem WI_own (w : World) (x y : Int) (g9 : Nat) (E0 : List (S23 × S23)) (B : Nat) (hB : w.heap.size ≤ B) : OwnFrom B (fun pre W => WI w x y g9 (E0 ++ pre) W) := by
  intro pre X Y row hs hg hr
  obtain ⟨⟨h1, h2, h3, h4, h5⟩, h6, h7⟩ := hs
  have hr' : ∀ r, row = some r → ∃ o : Obj, X.heap[r]? = some o ∧ o.isCells = false := fun r e => (hr r e).2
  exact ⟨⟨cells_own _ (fun _ : Unit => _) 3 () X Y row h1 hg hr', cells_own _ (fun _ : Unit => _) 3 () X Y row h2 hg hr', cells_own _ (fun _ : Unit => _) 4 () X Y row h3 hg hr', cells_own _ (fun _ : Unit => _) 23 () X Y row h4 hg hr', cells_own _ (fun _ : Unit => _) 4 () X Y row h5 hg hr'⟩,
    h6.grown hg h6.size (fun k e => Nat.le_trans hB (hr k e).1), h7⟩

theorem WI_below {w : World} {x y : Int} {g9 : Nat} {es : List (S23 × S23)} {W W' : World} (h : WI w x y g9 es W) (hb : Below W.heap.size W W') : WI w x y g9 es W' := by
  obtain ⟨⟨h1, h2, h3, h4, h5⟩, h6, h7⟩ := h
  have k : ∀ {B : Nat} {o : Obj}, W.heap[B]? = some o → W'.heap[B]? = some o := fun {B o} h => (hb.block B (Array.getElem?_eq_some_iff.1 h).1).trans h
  exact ⟨⟨k h1, k h2, k h3, k h4, k h5⟩, h6.trans (hb.mono h6.size), h7⟩

/-- A round of Wind, between two of its steps: what the boxes hold; what has been kept since the round's start W. -/
def BS (s : Nat) (x y : Int) (g9 Bs g14 g15 : Nat) (e : S23 × S23) (W : World) (n : Int) (on ok : Bool) (V : World) : Prop :=
  (Boxed V s 3 (.int .i64 y) ∧ Boxed V (s + 1) 3 (.int .i64 n) ∧ Boxed V (s + 1 + 1) 4 (.bool on) ∧ V.heap[s + 1 + 1 + 1]? = some (.cells #[.int .i64 x, .int .i64 y] 23 (0, 0)) ∧ Boxed V g9 4 (.bool ok)) ∧
  (V.heap[g14]? = some (.cells #[.int .i64 (tw e.1).f0, .int .i64 (tw e.1).f1] 23 (0, 0)) ∧ V.heap[g15]? = some (.cells #[.int .i64 (tw e.2).f0, .int .i64 (tw e.2).f1] 23 (0, 0))) ∧
  (KeepsOthers W V ∧ Below s W V ∧ V.heap[Bs]? = W.heap[Bs]?) ∧ (s + 1 + 1 + 1 < g9 ∧ g9 < Bs ∧ Bs < W.heap.size ∧ W.heap.size ≤ g14 ∧ W.heap.size ≤ g15)

section
variable {s : Nat} {x y : Int} {g9 Bs g14 g15 : Nat} {e : S23 × S23} {W : World} {n : Int} {on ok : Bool} {V : World}

theorem BS_below (h : BS s x y g9 Bs g14 g15 e W n on ok V) {V' : World} (hb : Below V.heap.size V V') : BS s x y g9 Bs g14 g15 e W n on ok V' := by
  obtain ⟨⟨h1, h2, h3, h4, h5⟩, ⟨h6, h7⟩, ⟨h8, h9, h10⟩, h11⟩ := h
  have k : ∀ {B : Nat} {o : Obj}, V.heap[B]? = some o → V'.heap[B]? = some o := fun {B o} h => (hb.block B (Array.getElem?_eq_some_iff.1 h).1).trans h
  have hsz := h8.size
  exact ⟨⟨k h1, k h2, k h3, k h4, k h5⟩, ⟨k h6, k h7⟩, ⟨h8.trans (keeps_below hb), h9.trans (hb.mono (by omega)), (hb.block _ (by omega)).trans h10⟩, h11⟩

theorem BS_drew (h : BS s x y g9 Bs g14 g15 e W n on ok V) : BS s x y g9 Bs g14 g15 e W n on ok V.drew := BS_below h (below_drew1 (Below.refl _ _))

/-- One of Wind's three boxes that turn is written. -/
theorem BS_put (k : Nat) (u : Value) (hk : k = s + 1 ∨ k = s + 1 + 1 ∨ k = g9) (h : BS s x y g9 Bs g14 g15 e W n on ok V) (n' : Int) (on' ok' : Bool)
    (hn : Boxed (V.setCell ⟨k, 0, none⟩ u) (s + 1) 3 (.int .i64 n')) (ho : Boxed (V.setCell ⟨k, 0, none⟩ u) (s + 1 + 1) 4 (.bool on')) (hr : Boxed (V.setCell ⟨k, 0, none⟩ u) g9 4 (.bool ok')) :
    BS s x y g9 Bs g14 g15 e W n' on' ok' (V.setCell ⟨k, 0, none⟩ u) := by
  obtain ⟨⟨h1, h2, h3, h4, h5⟩, ⟨h6, h7⟩, ⟨h8, h9, h10⟩, p1, p2, p3, p4, p5⟩ := h
  have kk : ∀ {B : Nat} {o : Obj}, B ≠ k → V.heap[B]? = some o → (V.setCell ⟨k, 0, none⟩ u).heap[B]? = some o := fun {B o} hne h => (Go.Deep.blk_setCell_other _ _ _ _ hne).trans h
  exact ⟨⟨kk (by omega) h1, hn, ho, kk (by omega) h4, hr⟩, ⟨kk (by omega) h6, kk (by omega) h7⟩, ⟨h8.trans (KeepsOthers.setCell _ _ _), h9.setCell (p := ⟨k, 0, none⟩) (show s ≤ k by omega) _, (Go.Deep.blk_setCell_other _ _ _ _ (show Bs ≠ k by omega)).trans h10⟩, p1, p2, p3, p4, p5⟩

theorem BS_n (h : BS s x y g9 Bs g14 g15 e W n on ok V) (n' : Int) : BS s x y g9 Bs g14 g15 e W n' on ok (V.setCell ⟨s + 1, 0, none⟩ (.int .i64 n')) := by
  have hh := h
  obtain ⟨⟨h1, h2, h3, h4, h5⟩, _, _, p1, p2, p3, p4, p5⟩ := h
  exact BS_put _ _ (Or.inl rfl) hh _ _ _ (h2.set _) (h3.other (by omega) _) (h5.other (by omega) _)
theorem BS_on (h : BS s x y g9 Bs g14 g15 e W n on ok V) (on' : Bool) : BS s x y g9 Bs g14 g15 e W n on' ok (V.setCell ⟨s + 1 + 1, 0, none⟩ (.bool on')) := by
  have hh := h
  obtain ⟨⟨h1, h2, h3, h4, h5⟩, _, _, p1, p2, p3, p4, p5⟩ := h
  exact BS_put _ _ (Or.inr (Or.inl rfl)) hh _ _ _ (h2.other (by omega) _) (h3.set _) (h5.other (by omega) _)
theorem BS_ok (h : BS s x y g9 Bs g14 g15 e W n on ok V) (ok' : Bool) : BS s x y g9 Bs g14 g15 e W n on ok' (V.setCell ⟨g9, 0, none⟩ (.bool ok')) := by
  have hh := h
  obtain ⟨⟨h1, h2, h3, h4, h5⟩, _, _, p1, p2, p3, p4, p5⟩ := h
  exact BS_put _ _ (Or.inr (Or.inr rfl)) hh _ _ _ (h2.other (by omega) _) (h3.other (by omega) _) (h5.set _)

/-- What the walk reads of it. -/
theorem BS_reads (h : BS s x y g9 Bs g14 g15 e W n on ok V) :
    (V.cell? ⟨s, 0, none⟩ = some (.int .i64 y) ∧ V.cell? ⟨s + 1, 0, none⟩ = some (.int .i64 n) ∧ V.cell? ⟨s + 1 + 1, 0, none⟩ = some (.bool on) ∧ V.cell? ⟨s + 1 + 1 + 1, 0, none⟩ = some (.int .i64 x) ∧ V.cell? ⟨s + 1 + 1 + 1, 1, none⟩ = some (.int .i64 y) ∧ V.cell? ⟨g9, 0, none⟩ = some (.bool ok)) ∧
    (V.cell? ⟨g14, 0, none⟩ = some (.int .i64 (tw e.1).f0) ∧ V.cell? ⟨g14, 1, none⟩ = some (.int .i64 (tw e.1).f1) ∧ V.cell? ⟨g15, 0, none⟩ = some (.int .i64 (tw e.2).f0) ∧ V.cell? ⟨g15, 1, none⟩ = some (.int .i64 (tw e.2).f1)) ∧
    (V.frozen? ⟨s + 1, 0, none⟩ = false ∧ V.frozen? ⟨s + 1 + 1, 0, none⟩ = false ∧ V.frozen? ⟨g9, 0, none⟩ = false) := by
  obtain ⟨⟨h1, h2, h3, h4, h5⟩, ⟨h6, h7⟩, _⟩ := h
  exact ⟨⟨h1.cell, h2.cell, h3.cell, cell0 0 h4 rfl, cell0 1 h4 rfl, h5.cell⟩, ⟨cell0 0 h6 rfl, cell0 1 h6 rfl, cell0 0 h7 rfl, cell0 1 h7 rfl⟩, h2.frozen, h3.frozen, h5.frozen⟩
end

theorem wind_end (w : World) (tmps : Array Value) (ds : List Deferred) (V : World) (N : Int) (O : Bool) (h6 : tmps.getD 6 undef = .pointer (some ⟨w.heap.size + 1, 0, none⟩)) (h7 : tmps.getD 7 undef = .pointer (some ⟨w.heap.size + 1 + 1, 0, none⟩))
    (b6 : Boxed V (w.heap.size + 1) 3 (.int .i64 N)) (b7 : Boxed V (w.heap.size + 1 + 1) 4 (.bool O)) (hB : Below w.heap.size w V) (hM : Mk w ds V) :
    bodyPostM Fence.wide 9 Try.prog Try.f38 (fun e w' => e = .returned (.tuple #[.int .i64 N, .bool O]) ∧ Below w.heap.size w w') .ret { tmps := tmps, defers := ds } V := by
  obtain ⟨Ds, h1, h2, h3⟩ := hM
  refine leaves_marks (u := .returning) (by simp) (fun W => Boxed W (w.heap.size + 1) 3 (.int .i64 N) ∧ Boxed W (w.heap.size + 1 + 1) 4 (.bool O) ∧ Below w.heap.size w W) w.heap.size ?_ ?_ Ds ds V h2 h1 h3 ⟨b6, b7, hB⟩
  · rintro W D ⟨k6, k7, kB⟩ hD hK
    have hr : ∀ r, some D = some r → ∃ o : Obj, W.heap[r]? = some o ∧ o.isCells = false := fun r e => by cases e; exact ⟨_, hK, rfl⟩
    exact ⟨cells_own _ (fun _ : Unit => _) 3 () W _ (some D) k6 (grownBy_putObj' W D (.deferred none)) hr, cells_own _ (fun _ : Unit => _) 4 () W _ (some D) k7 (grownBy_putObj' W D (.deferred none)) hr,
      kB.grown (grownBy_putObj' W D (.deferred none)) kB.size (fun k e => by cases e; exact hD)⟩
  · rintro W ⟨k6, k7, kB⟩
    have hu3 := Try.underlying3
    have hu4 := Try.underlying4
    have c6 := k6.cell
    have c7 := k7.cell
    refine ⟨.tuple #[.int .i64 N, .bool O], ?_, rfl, kB⟩
    have hres : Try.f38.results = #[.cell 6 3, .cell 7 4] := rfl
    have h6' : tmps[6]?.getD undef = .pointer (some ⟨w.heap.size + 1, 0, none⟩) := by simpa using h6
    have h7' : tmps[7]?.getD undef = .pointer (some ⟨w.heap.size + 1 + 1, 0, none⟩) := by simpa using h7
    simp only [results, hres]
    simp [h6', h7', go_sem, c6, c7]

set_option maxRecDepth 100000 in
set_option maxHeartbeats 8000000 in
theorem wind_any (A : Option Addr) (c : Nat) (ls : List (List S23)) (x y : Int) (w : World) (hC : Kd.C (Kd.slice 23 k23) w A ls.length ls) (hc : ls.length ≤ c) (hm : (allE ls).length + ls.length ≤ 4611686018427387904) :
    Calls Try.prog 38 #[.slice A ls.length c, .int .i64 x, .int .i64 y] w fun e w' => e = .returned (.tuple #[.int .i64 (windN x y (allE ls)), .bool (windO x y (allE ls))]) ∧ Below w.heap.size w w' := by
  have hmx : Try.prog.follows .mixedOrders = true := by kernel_rfl
  have hu23 := Try.underlying23
  have HC := Aside0.mk hC
  clear hC
  refine (callsIn_wide (n := 9)).1 ?_
  refine callsIn_of_wp_marks Try.func38 rfl trivial ?_ rfl
  simp only [Try.ntmps38, List.size_toArray, List.length_cons, List.length_nil, Nat.reduceAdd, Nat.reduceSub, Array.replicate_succ, Array.replicate_zero, List.push_toArray, List.append_toArray, List.nil_append, List.cons_append]
  gi_wp2_with (refine ⟨trivial, ?_⟩; gi_at_call 20; refine (callsIn_wide.2 (right_any _ _ _)).mono ?_; rintro e w1 ⟨rfl, hb⟩)
  have HI : Aside0 (WI w x y w1.heap.size [] (w1.alloc (.cells #[.bool (rightB x y)] 4))) := by
    have b5 := (((Boxed.new w 3 (.int .i64 y)).alloc (.cells #[.int .i64 0] 3)).alloc (.cells #[.bool false] 4)).alloc (.cells #[.int .i64 x, .int .i64 y] 23)
    have b6 := ((Boxed.new (w.alloc (.cells #[.int .i64 y] 3)) 3 (.int .i64 0)).alloc (.cells #[.bool false] 4)).alloc (.cells #[.int .i64 x, .int .i64 y] 23)
    have b7 := (Boxed.new ((w.alloc (.cells #[.int .i64 y] 3)).alloc (.cells #[.int .i64 0] 3)) 4 (.bool false)).alloc (.cells #[.int .i64 x, .int .i64 y] 23)
    have b8 := blk_new (((w.alloc (.cells #[.int .i64 y] 3)).alloc (.cells #[.int .i64 0] 3)).alloc (.cells #[.bool false] 4)) (.cells #[.int .i64 x, .int .i64 y] 23)
    simp only [World.size_alloc] at b5 b6 b7 b8
    have hB0 : Below w.heap.size w ((((w.alloc (.cells #[.int .i64 y] 3)).alloc (.cells #[.int .i64 0] 3)).alloc (.cells #[.bool false] 4)).alloc (.cells #[.int .i64 x, .int .i64 y] 23)) :=
      ((((Below.refl _ w).alloc (Nat.le_refl _) _).alloc (by simp) _).alloc (by simp; omega) _).alloc (by simp; omega) _
    have hsz : (((((w.alloc (.cells #[.int .i64 y] 3)).alloc (.cells #[.int .i64 0] 3)).alloc (.cells #[.bool false] 4)).alloc (.cells #[.int .i64 x, .int .i64 y] 23))).heap.size = w.heap.size + 1 + 1 + 1 + 1 := by simp
    have hs1 := hb.size
    have hb2 := hb.trans (((Below.refl _ w1).alloc (Nat.le_refl _) (.cells #[.bool (rightB x y)] 4)).mono hs1)
    clear hb
    generalize (((w.alloc (.cells #[.int .i64 y] 3)).alloc (.cells #[.int .i64 0] 3)).alloc (.cells #[.bool false] 4)).alloc (.cells #[.int .i64 x, .int .i64 y] 23) = WA at b5 b6 b7 b8 hB0 hsz hs1 hb2
    have k : ∀ {B : Nat} {o : Obj}, WA.heap[B]? = some o → (w1.alloc (.cells #[.bool (rightB x y)] 4)).heap[B]? = some o := fun {B o} h => (hb2.block B (Array.getElem?_eq_some_iff.1 h).1).trans h
    exact ⟨⟨⟨k b5, k b6, k b7, k b8, by simpa [okAll] using Boxed.new w1 4 (.bool (rightB x y))⟩, hB0.trans (hb2.mono hB0.size), by omega⟩⟩
  obtain ⟨g9, hg9⟩ : ∃ g9, w1.heap.size = g9 := ⟨_, rfl⟩
  rw [hg9] at HI ⊢
  generalize w1.alloc (.cells #[.bool (rightB x y)] 4) = W0 at HI ⊢
  clear hb hg9
  clear w1
  refine wpIn_loop (fun a' wr => ∃ (k : Nat) (ds : List Deferred) (u11 u12 u13 u14 u15 u24 u25 u26 u27 u28 u29 u30 u31 u32 u33 u34 u35 u36 u37 u38 u39 u40 u41 u42 u43 u44 u45 u46 u47 u48 u49 u50 u51 u52 u53 u54 u55 u56 u57 u58 u59 u60 u61 u62 u63 u64 u65 u66 u67 u68 u69 u70 u71 u72 u73 u74 u75 u76 u77 u78 u79 u80 u81 u82 u83 u84 u85 : Value), (Aside0 (k ≤ ls.length) ∧ Aside0 (WI w x y g9 (allE (ls.take k)) wr) ∧ Aside0 (Mk w ds wr)) ∧ a' = { tmps := List.toArray ((.slice A ls.length c) :: (.int .i64 x) :: (.int .i64 y) :: (undef) :: (undef) :: (.pointer (some ⟨w.heap.size, 0, none⟩)) :: (.pointer (some ⟨w.heap.size + 1, 0, none⟩)) :: (.pointer (some ⟨w.heap.size + 1 + 1, 0, none⟩)) :: (.pointer (some ⟨w.heap.size + 1 + 1 + 1, 0, none⟩)) :: (.pointer (some ⟨g9, 0, none⟩)) :: (undef) :: (u11) :: (u12) :: (u13) :: (u14) :: (u15) :: (.int .i64 x) :: (.int .i64 y) :: (.agg #[.int .i64 x, .int .i64 y]) :: (.agg #[.int .i64 x, .int .i64 y]) :: (.bool (rightB x y)) :: (.slice A ls.length c) :: (.int .i64 ls.length) :: (.int .i64 k) :: (u24) :: (u25) :: (u26) :: (u27) :: (u28) :: (u29) :: (u30) :: (u31) :: (u32) :: (u33) :: (u34) :: (u35) :: (u36) :: (u37) :: (u38) :: (u39) :: (u40) :: (u41) :: (u42) :: (u43) :: (u44) :: (u45) :: (u46) :: (u47) :: (u48) :: (u49) :: (u50) :: (u51) :: (u52) :: (u53) :: (u54) :: (u55) :: (u56) :: (u57) :: (u58) :: (u59) :: (u60) :: (u61) :: (u62) :: (u63) :: (u64) :: (u65) :: (u66) :: (u67) :: (u68) :: (u69) :: (u70) :: (u71) :: (u72) :: (u73) :: (u74) :: (u75) :: (u76) :: (u77) :: (u78) :: (u79) :: (u80) :: (u81) :: (u82) :: (u83) :: (u84) :: (u85) :: (undef) :: (undef) :: (undef) :: (undef) :: (undef) :: []), defers := ds }) (fun a' _ => ls.length - (intOf (a'.tmps.getD 23 undef)).toNat) ?_ ?_
  · refine ⟨0, [], _, _, _, _, _, _, _, _, _, _, _, _, _, _, _, _, _, _, _, _, _, _, _, _, _, _, _, _, _, _, _, _, _, _, _, _, _, _, _, _, _, _, _, _, _, _, _, _, _, _, _, _, _, _, _, _, _, _, _, _, _, _, _, _, _, _, _, ⟨⟨Nat.zero_le _⟩, by simpa [allE] using HI, ⟨⟨[], List.nodup_nil, rfl, fun _ h => by cases h⟩⟩⟩, rfl⟩
  intro a' wr hinv
  obtain ⟨k, ds, u11, u12, u13, u14, u15, u24, u25, u26, u27, u28, u29, u30, u31, u32, u33, u34, u35, u36, u37, u38, u39, u40, u41, u42, u43, u44, u45, u46, u47, u48, u49, u50, u51, u52, u53, u54, u55, u56, u57, u58, u59, u60, u61, u62, u63, u64, u65, u66, u67, u68, u69, u70, u71, u72, u73, u74, u75, u76, u77, u78, u79, u80, u81, u82, u83, u84, u85, ⟨Hk, HI2, HM⟩, rfl⟩ := hinv
  have hk := Hk.out
  clear HI
  by_cases hlt : k < ls.length
  · have hlt' : (k : Int) < (ls.length : Int) := by omega
    have d0 : decide ((k : Int) < (ls.length : Int)) = true := decide_eq_true hlt'
    obtain ⟨ad, A0, c0, e1, hx0, hc0, hC0⟩ := at_L2 HC.out (k : Int) (by omega) hlt'
    cases e1
    simp only [Int.toNat_natCast] at hx0
    replace hx0 := (HI2.out.2.1.cell (World.block_lt_of_cell? w _ hx0)).trans hx0
    have q0 : (0 : Int) ≤ (k : Int) := by omega
    obtain ⟨r, hr⟩ : ∃ r, rd_L2 ls (k : Int) = r := ⟨_, rfl⟩
    rw [hr] at hx0 hc0 hC0
    have HCr := Aside0.mk hC0
    have HR := Aside0.mk (show ls.getD k [] = r by rw [← hr]; simp [rd_L2])
    clear hC0 hr
    have HN := Aside0.mk (show (allE (ls.take (k + 1))).length ≤ (allE ls).length by
      have : ls = ls.take (k + 1) ++ ls.drop (k + 1) := (List.take_append_drop _ _).symm
      have h2 : allE ls = allE (ls.take (k + 1)) ++ allE (ls.drop (k + 1)) := by (conv => lhs; rw [this]); exact List.flatMap_append
      rw [h2, List.length_append]; omega)
    have HT := Aside0.mk (show allE (ls.take (k + 1)) = allE (ls.take k) ++ edgs r by rw [allE_take ls k hlt, HR.out])
    gi_wp2_with (refine ⟨trivial, ?_⟩; gi_at_call 56; refine (sides_in _ _ _ _ _).mono ?_; rintro e w' ⟨rfl, rfl⟩)
    obtain ⟨E0, hE0⟩ : ∃ E0, allE (ls.take k) = E0 := ⟨_, rfl⟩
    rw [hE0] at HI2 HT
    clear hx0 d0 hE0
    have HBx := Aside0.mk (Boxed.new wr 47 (.slice A0 r.length c0))
    have HI3 := Aside0.mk (WI_below HI2.out ((Below.refl _ wr).alloc (Nat.le_refl _) (.cells #[.slice A0 r.length c0] 47)))
    have HM3 := Aside0.mk (show Mk w ds (wr.alloc (.cells #[.slice A0 r.length c0] 47)) by
      obtain ⟨Ds, h1, h2, h3⟩ := HM.out
      exact ⟨Ds, h1, h2, fun D hD => ⟨(h3 D hD).1, (KeepsOthers.alloc wr _).same D _ (h3 D hD).2 rfl⟩⟩)
    have HG3 := Aside0.mk (show g9 < wr.heap.size from (Array.getElem?_eq_some_iff.1 HI2.out.1.2.2.2.2).1)
    obtain ⟨Bs, hBs⟩ : ∃ Bs, wr.heap.size = Bs := ⟨_, rfl⟩
    rw [hBs] at HBx HG3 ⊢
    generalize wr.alloc (.cells #[.slice A0 r.length c0] 47) = WL at HBx HI3 HM3 ⊢
    have HW3 := Aside0.mk (show w.heap.size ≤ WL.heap.size from HI3.out.2.1.size)
    have HBL := Aside0.mk (show Bs < WL.heap.size from HBx.out.lt)
    clear HM HI2 hBs
    clear wr
    have HL := Aside0.mk (show r.length ≤ (allE ls).length by have := HN.out; rw [HT.out, List.length_append, edgs_length] at this; omega)
    refine wpIn_rangeFunc_ownH rfl (by omega) (gf := 71) (lb := #[.pointer (some ⟨Bs, 0, none⟩)]) rfl trivial (enters_of Try.func71 (by kernel_rfl) rfl)
      (sides_stops 8 (by omega) Bs w.heap.size w WL A0 c0 r HCr.out hc0 (by have := HL.out; omega) rfl HI3.out.2.1 HBx.out) KpR_t (KpR_b HW3.out HBL.out) (Below.refl _ _) (fun _ => rfl)
      (fun pre W => WI w x y g9 (E0 ++ pre) W ∧ KeepsFrom w.heap.size WL W)
      (fun _ _ _ => False)
      (OwnFrom.and (WI_own w x y g9 E0 _ HW3.out) (ownFrom_keepsFrom (Nat.le_refl _)))
      (fun _ _ _ _ _ hs _ _ => hs)
      ⟨by rw [List.append_nil]; exact HI3.out, KeepsFrom.refl _ _⟩
      (fun e a' W => ∃ b12 b13, Bs < b12 ∧ Bs < b13 ∧ W.heap[b12]? = some (.cells #[.int .i64 e.1.f0, .int .i64 e.1.f1] 23 (0, 0)) ∧ W.heap[b13]? = some (.cells #[.int .i64 e.2.f0, .int .i64 e.2.f1] 23 (0, 0)) ∧ a' = { tmps := List.toArray ((.slice (some ad) ls.length c) :: (.int .i64 x) :: (.int .i64 y) :: (undef) :: (undef) :: (.pointer (some ⟨w.heap.size, 0, none⟩)) :: (.pointer (some ⟨w.heap.size + 1, 0, none⟩)) :: (.pointer (some ⟨w.heap.size + 1 + 1, 0, none⟩)) :: (.pointer (some ⟨w.heap.size + 1 + 1 + 1, 0, none⟩)) :: (.pointer (some ⟨g9, 0, none⟩)) :: (undef) :: (.slice A0 r.length c0) :: (.pointer (some ⟨b12, 0, none⟩)) :: (.pointer (some ⟨b13, 0, none⟩)) :: (u14) :: (u15) :: (.int .i64 x) :: (.int .i64 y) :: (.agg #[.int .i64 x, .int .i64 y]) :: (.agg #[.int .i64 x, .int .i64 y]) :: (.bool (rightB x y)) :: (.slice (some ad) ls.length c) :: (.int .i64 ls.length) :: (.int .i64 k) :: (.bool true) :: (.pointer (some (ad.add k))) :: (.slice A0 r.length c0) :: (.slice A0 r.length c0) :: (.func (.func 71) #[] #[.pointer (some ⟨Bs, 0, none⟩)]) :: (ptV e.1.f0 e.1.f1) :: (ptV e.2.f0 e.2.f1) :: (u31) :: (u32) :: (u33) :: (u34) :: (u35) :: (u36) :: (u37) :: (u38) :: (u39) :: (u40) :: (u41) :: (u42) :: (u43) :: (u44) :: (u45) :: (u46) :: (u47) :: (u48) :: (u49) :: (u50) :: (u51) :: (u52) :: (u53) :: (u54) :: (u55) :: (u56) :: (u57) :: (u58) :: (u59) :: (u60) :: (u61) :: (u62) :: (u63) :: (u64) :: (u65) :: (u66) :: (u67) :: (u68) :: (u69) :: (u70) :: (u71) :: (u72) :: (u73) :: (u74) :: (u75) :: (u76) :: (u77) :: (u78) :: (u79) :: (u80) :: (u81) :: (u82) :: (u83) :: (u84) :: (u85) :: (undef) :: (undef) :: (undef) :: (undef) :: (undef) :: []), defers := [] })
      (fun e a' _ X Y row hs hg hr => by
        obtain ⟨b12, b13, h1, h2, h3, h4, h5⟩ := hs
        have hr' : ∀ r, row = some r → ∃ o : Obj, X.heap[r]? = some o ∧ o.isCells = false := fun r e => (hr r e).2
        exact ⟨b12, b13, h1, h2, cells_own _ (fun _ : Unit => _) 23 () X Y row h3 hg hr', cells_own _ (fun _ : Unit => _) 23 () X Y row h4 hg hr', h5⟩)
      ?assign ?body ?done ?stop
    case assign =>
      rintro lp pre e W K ⟨hi, hk⟩ hK
      have hB2 : Below W.heap.size W ((W.alloc (.cells #[.int .i64 e.1.f0, .int .i64 e.1.f1] 23)).alloc (.cells #[.int .i64 e.2.f0, .int .i64 e.2.f1] 23)) := ((Below.refl _ W).alloc (Nat.le_refl _) _).alloc (by simp) _
      have hsz := hk.size
      have hKO := keeps_below hB2
      have hws := hi.2.1.size
      have hbl := HBL.out
      have k0 := Below.heap_alloc (W.alloc (.cells #[.int .i64 e.1.f0, .int .i64 e.1.f1] 23)) (.cells #[.int .i64 e.2.f0, .int .i64 e.2.f1] 23) W.heap.size (by simp)
      have k1 := blk_new W (.cells #[.int .i64 e.1.f0, .int .i64 e.1.f1] 23)
      have k2 := blk_new (W.alloc (.cells #[.int .i64 e.1.f0, .int .i64 e.1.f1] 23)) (.cells #[.int .i64 e.2.f0, .int .i64 e.2.f1] 23)
      rw [World.size_alloc] at k2
      gi_wp2
      exact hK _ _ (hKO.from _) ⟨hB2.mono hws, hB2.block _ (by omega)⟩ ⟨WI_below hi hB2, hk.trans (hKO.from _)⟩ ⟨W.heap.size, W.heap.size + 1, by omega, by omega, k0.trans k1, k2, rfl⟩
    case body =>
      rintro lp pre e a' W hl ⟨rc, hrc⟩ ⟨hi, hk⟩ ⟨b12, b13, h12, h13, k12, k13, rfl⟩ hlt2
      have HIW := Aside0.mk hi
      have HKW := Aside0.mk hk
      have HSZ := Aside0.mk (Nat.lt_of_lt_of_le HBL.out hk.size)
      have H12 := Aside0.mk k12
      have H13 := Aside0.mk k13
      clear hi hk hrc hl k12 k13
      have HN2 := Aside0.mk (show ((E0 ++ pre).length : Int) < 4611686018427387904 by
        have h1 := HN.out
        rw [HT.out, List.length_append, edgs_length] at h1
        rw [List.length_append]
        omega)
      have hbd := wsum_bd x y (E0 ++ pre)
      obtain ⟨E, hE⟩ : ∃ E, E0 ++ pre = E := ⟨_, rfl⟩
      have HE := Aside0.mk (show E0 ++ (pre ++ [e]) = E ++ [e] by rw [← hE, List.append_assoc])
      rw [hE] at HIW HN2 hbd
      have hn2 := HN2.out
      have hw1 : IntKind.i64.wrap (wsum x y E + 1) = wsum x y E + 1 := IntWalk.i64_in _ (by omega)
      have hw2 : IntKind.i64.wrap (wsum x y E - 1) = wsum x y E - 1 := IntWalk.i64_in _ (by omega)
      have hg9 := HG3.out
      clear hE hn2 hbd HN2
      gi_upto_region 9 with (fail)
      refine wind_two lp _ b12 b13 (by omega) e W H12 H13 _ _ _ _ _ _ _ _ _ _ _ _ _ _ _ _ _ _ _ _ _ _ _ _ _ _ _ _ _ _ _ _ _ _ _ _ _ _ _ _ _ _ _ _ _ _ _ _ _ _ _ _ _ _ _ _ _ _ _ _ _ _ _ _ _ _ _ _ _ _ _ _ _ _ _ _ _ _ _ _ _ _ _ _ _ _ _ _ _ _ _ ?_
      intro g14 g15 W' hB h14 h15 k14 k15
      have HS := Aside0.mk (show BS w.heap.size x y g9 Bs g14 g15 e W (wsum x y E) (E.any (onE x y)) (okAll x y E) W' from by
        have hi := WI_below HIW.out hB
        exact ⟨hi.1, ⟨k14, k15⟩, ⟨keeps_below hB, hB.mono HIW.out.2.1.size, hB.block _ HSZ.out⟩, HIW.out.2.2, hg9, HSZ.out, h14, h15⟩)
      obtain ⟨n, hn⟩ : ∃ n, wsum x y E = n := ⟨_, rfl⟩
      rw [hn] at HS hw1 hw2
      have Hn := Aside0.mk hn
      clear hB h14 h15 k14 k15 H12 H13 hn hg9
      gi_upto_region 10 with (fail)
      gi_cut [] from 86 (fun wc => Aside0 (BS w.heap.size x y g9 Bs g14 g15 e W n (E.any (onE x y)) (okAll x y (E ++ [e])) wc))
      case first =>
        obtain ⟨⟨c1, c2, c3, c4, c5, c6⟩, ⟨c7, c8, c9, c10⟩, f1, f2, f3⟩ := BS_reads HS.out
        cases hr0 : okAll x y E with
        | false =>
          rw [hr0] at HS c6
          gi_wp2
          refine ⟨trivial, ?_⟩
          gi_wp2
          gi_meet
          case rel => rw [okAll_snoc, hr0]; exact ⟨BS_ok HS.out false⟩
        | true =>
          rw [hr0] at HS c6
          gi_wp2_with (refine ⟨trivial, ?_⟩; gi_at_call 20; refine (CallsIn.inRound lp (callsIn_wide.2 (right_any _ _ _))).mono ?_; rintro e1 w2 ⟨rfl, hb2⟩; have HS2 := Aside0.mk (BS_below HS.out hb2); obtain ⟨⟨d1, d2, d3, d4, d5, d6⟩, ⟨d7, d8, d9, d10⟩, r1, r2, r3⟩ := BS_reads HS2.out)
          gi_meet
          case rel => rw [okAll_snoc, hr0]; exact ⟨BS_ok HS2.out _⟩
      case rest =>
        clear HS
        have HS := hcut
        clear hcut
        gi_upto_region 11 with (fail)
        gi_cut [] from 86 (fun wc => Aside0 (BS w.heap.size x y g9 Bs g14 g15 e W n ((E ++ [e]).any (onE x y)) (okAll x y (E ++ [e])) wc))
        case first =>
          obtain ⟨⟨c1, c2, c3, c4, c5, c6⟩, ⟨c7, c8, c9, c10⟩, f1, f2, f3⟩ := BS_reads HS.out
          cases hr0 : E.any (onE x y) with
          | true =>
            rw [hr0] at HS c3
            gi_wp2
            refine ⟨trivial, ?_⟩
            gi_wp2
            gi_meet
            case rel => rw [onAny_snoc, hr0]; exact ⟨BS_on HS.out true⟩
          | false =>
            rw [hr0] at HS c3
            gi_wp2_with (refine ⟨trivial, ?_⟩; gi_at_call 26; refine (CallsIn.inRound lp (callsIn_wide.2 (on_any _ _ _ _ _ _ _))).mono ?_; rintro e1 w2 ⟨rfl, hb2⟩; have HS2 := Aside0.mk (BS_below HS.out hb2); obtain ⟨⟨d1, d2, d3, d4, d5, d6⟩, ⟨d7, d8, d9, d10⟩, r1, r2, r3⟩ := BS_reads HS2.out)
            gi_meet
            case rel => rw [onAny_snoc, hr0]; exact ⟨BS_on HS2.out _⟩
        case rest =>
          clear HS
          have HS := hcut
          clear hcut
          gi_upto_region 12 with (fail)
          gi_cut [63] from 86 (fun v63 wc => v63 = .bool (upE x y e) ∧ Aside0 (BS w.heap.size x y g9 Bs g14 g15 e W n ((E ++ [e]).any (onE x y)) (okAll x y (E ++ [e])) wc))
          case first =>
            obtain ⟨⟨c1, c2, c3, c4, c5, c6⟩, ⟨c7, c8, c9, c10⟩, f1, f2, f3⟩ := BS_reads HS.out
            have HU := Aside0.mk (show upE x y e = decide ((tw e.1).f1 ≤ y ∧ y < (tw e.2).f1 ∧ 0 < tuE x y e) from rfl)
            by_cases h1 : (tw e.1).f1 ≤ y
            · have i1 : decide ((tw e.1).f1 ≤ y) = true := decide_eq_true h1
              by_cases h2 : y < (tw e.2).f1
              · have i2 : decide (y < (tw e.2).f1) = true := decide_eq_true h2
                by_cases h3 : 0 < tuE x y e
                · have i3 : decide (0 < sgn (crossB (tw e.1).f0 (tw e.1).f1 (tw e.2).f0 (tw e.2).f1 x y)) = true := decide_eq_true h3
                  gi_wp2_with (refine ⟨trivial, ?_⟩; gi_at_call 23; refine (CallsIn.inRound lp (callsIn_wide.2 (turn_any _ _ _ _ _ _ _))).mono ?_; rintro e1 w2 ⟨rfl, hb2⟩; have HS2 := Aside0.mk (BS_below HS.out hb2))
                  gi_meet
                  case rel => exact ⟨congrArg Value.bool (by unfold upE; exact (decide_eq_true (by omega)).symm), HS2⟩
                · have i3 : decide (0 < sgn (crossB (tw e.1).f0 (tw e.1).f1 (tw e.2).f0 (tw e.2).f1 x y)) = false := decide_eq_false h3
                  gi_wp2_with (refine ⟨trivial, ?_⟩; gi_at_call 23; refine (CallsIn.inRound lp (callsIn_wide.2 (turn_any _ _ _ _ _ _ _))).mono ?_; rintro e1 w2 ⟨rfl, hb2⟩; have HS2 := Aside0.mk (BS_below HS.out hb2))
                  gi_meet
                  case rel => exact ⟨congrArg Value.bool (by unfold upE; exact (decide_eq_false (by omega)).symm), HS2⟩
              · have i2 : decide (y < (tw e.2).f1) = false := decide_eq_false h2
                gi_wp2
                refine ⟨trivial, ?_⟩
                gi_wp2
                gi_meet
                case rel => exact ⟨congrArg Value.bool (by unfold upE; exact (decide_eq_false (by omega)).symm), HS⟩
            · have i1 : decide ((tw e.1).f1 ≤ y) = false := decide_eq_false h1
              gi_wp2
              refine ⟨trivial, ?_⟩
              gi_wp2
              gi_meet
              case rel => exact ⟨congrArg Value.bool (by unfold upE; exact (decide_eq_false (by omega)).symm), HS⟩
          case rest =>
            clear HS
            obtain ⟨rfl, HS⟩ := hcut
            gi_upto_if 63 with (fail)
            gi_cut [63] from 86 (fun v63 wc => Aside0 (BS w.heap.size x y g9 Bs g14 g15 e W (if upE x y e = true then n + 1 else n) ((E ++ [e]).any (onE x y)) (okAll x y (E ++ [e])) wc))
            case first =>
              obtain ⟨⟨c1, c2, c3, c4, c5, c6⟩, ⟨c7, c8, c9, c10⟩, f1, f2, f3⟩ := BS_reads HS.out
              cases hu : upE x y e with
              | true =>
                gi_wp2
                gi_meet
                case rel => rw [hu]; exact ⟨BS_n HS.out (n + 1)⟩
              | false =>
                gi_wp2
                gi_meet
                case rel => rw [hu]; exact HS
            case rest =>
              clear HS
              have HS := hcut
              clear hcut
              gi_upto_region 14 with (fail)
              gi_cut [82] from 86 (fun v82 wc => v82 = .bool (dnE x y e) ∧ Aside0 (BS w.heap.size x y g9 Bs g14 g15 e W (if upE x y e = true then n + 1 else n) ((E ++ [e]).any (onE x y)) (okAll x y (E ++ [e])) wc))
              case first =>
                obtain ⟨⟨c1, c2, c3, c4, c5, c6⟩, ⟨c7, c8, c9, c10⟩, f1, f2, f3⟩ := BS_reads HS.out
                by_cases h1 : (tw e.2).f1 ≤ y
                · have i1 : decide ((tw e.2).f1 ≤ y) = true := decide_eq_true h1
                  by_cases h2 : y < (tw e.1).f1
                  · have i2 : decide (y < (tw e.1).f1) = true := decide_eq_true h2
                    by_cases h3 : tuE x y e < 0
                    · have i3 : decide (sgn (crossB (tw e.1).f0 (tw e.1).f1 (tw e.2).f0 (tw e.2).f1 x y) < 0) = true := decide_eq_true h3
                      gi_wp2_with (refine ⟨trivial, ?_⟩; gi_at_call 23; refine (CallsIn.inRound lp (callsIn_wide.2 (turn_any _ _ _ _ _ _ _))).mono ?_; rintro e1 w2 ⟨rfl, hb2⟩; have HS2 := Aside0.mk (BS_below HS.out hb2))
                      gi_meet
                      case rel => exact ⟨congrArg Value.bool (by unfold dnE; exact (decide_eq_true (by omega)).symm), HS2⟩
                    · have i3 : decide (sgn (crossB (tw e.1).f0 (tw e.1).f1 (tw e.2).f0 (tw e.2).f1 x y) < 0) = false := decide_eq_false h3
                      gi_wp2_with (refine ⟨trivial, ?_⟩; gi_at_call 23; refine (CallsIn.inRound lp (callsIn_wide.2 (turn_any _ _ _ _ _ _ _))).mono ?_; rintro e1 w2 ⟨rfl, hb2⟩; have HS2 := Aside0.mk (BS_below HS.out hb2))
                      gi_meet
                      case rel => exact ⟨congrArg Value.bool (by unfold dnE; exact (decide_eq_false (by omega)).symm), HS2⟩
                  · have i2 : decide (y < (tw e.1).f1) = false := decide_eq_false h2
                    gi_wp2
                    refine ⟨trivial, ?_⟩
                    gi_wp2
                    gi_meet
                    case rel => exact ⟨congrArg Value.bool (by unfold dnE; exact (decide_eq_false (by omega)).symm), HS⟩
                · have i1 : decide ((tw e.2).f1 ≤ y) = false := decide_eq_false h1
                  gi_wp2
                  refine ⟨trivial, ?_⟩
                  gi_wp2
                  gi_meet
                  case rel => exact ⟨congrArg Value.bool (by unfold dnE; exact (decide_eq_false (by omega)).symm), HS⟩
              case rest =>
                clear HS
                obtain ⟨rfl, HS⟩ := hcut
                have HZ := Aside0.mk (wsum_snoc x y E e)
                cases hd : dnE x y e with
                | false =>
                  have HQ := Aside0.mk (show (if upE x y e = true then n + 1 else n) = wsum x y (E ++ [e]) by
                    rw [HZ.out, Hn.out]; unfold wnE; rw [hd]; split <;> simp)
                  rw [HQ.out] at HS
                  gi_wp2
                  exact ⟨HS.out.2.2.1.1.from _, HS.out.2.2.1.2, by rw [HE.out]; exact ⟨HS.out.1, HIW.out.2.1.trans HS.out.2.2.1.2.1, HS.out.2.2.2.1⟩, HKW.out.trans (HS.out.2.2.1.1.from _)⟩
                | true =>
                  have hu : upE x y e = false := by
                    cases hu : upE x y e with
                    | false => rfl
                    | true => rw [up_not_dn hu] at hd; cases hd
                  rw [hu] at HS
                  have HS1 := Aside0.mk (show BS w.heap.size x y g9 Bs g14 g15 e W n ((E ++ [e]).any (onE x y)) (okAll x y (E ++ [e])) wc from HS.out)
                  clear HS
                  obtain ⟨⟨c1, c2, c3, c4, c5, c6⟩, ⟨c7, c8, c9, c10⟩, f1, f2, f3⟩ := BS_reads HS1.out
                  have HQ := Aside0.mk (show n - 1 = wsum x y (E ++ [e]) by rw [HZ.out, Hn.out]; unfold wnE; rw [hu, hd]; simp; omega)
                  gi_wp2
                  have HS := BS_n HS1.out (n - 1)
                  rw [HQ.out] at HS
                  rw [HQ.out]
                  exact ⟨HS.2.2.1.1.from _, HS.2.2.1.2, by rw [HE.out]; exact ⟨HS.1, HIW.out.2.1.trans HS.2.2.1.2.1, HS.2.2.2.1⟩, HKW.out.trans (HS.2.2.1.1.from _)⟩
    case done =>
      rintro D es W hD rfl ⟨hi, hk⟩ hK
      have HI4 := Aside0.mk (show WI w x y g9 (allE (ls.take (k + 1))) W by rw [HT.out]; exact hi)
      have HM4 := Aside0.mk (show Mk w ({ target := .collected D, args := #[] } :: ds) W by
        obtain ⟨Ds, m1, m2, m3⟩ := HM3.out
        have hlt3 : ∀ D' ∈ Ds, D' < WL.heap.size := fun D' hD' => (Array.getElem?_eq_some_iff.1 (m3 D' hD').2).1
        exact ⟨D :: Ds, List.nodup_cons.2 ⟨fun h => by have := hlt3 D h; omega, m1⟩, by simp [m2], fun D' hD' => by
          rcases List.mem_cons.1 hD' with rfl | h
          · exact ⟨Nat.le_trans HW3.out hD, hK⟩
          · exact ⟨(m3 _ h).1, hk.same D' _ (m3 _ h).1 (m3 _ h).2 rfl⟩⟩)
      clear hi hk hK HM3 HI3
      gi_wp2
      refine ⟨⟨k + 1, { target := .collected D, args := #[] } :: ds, ?_⟩, ?_⟩
      · (repeat apply Exists.intro)
        exact ⟨⟨⟨by omega⟩, HI4, HM4⟩, rfl⟩
      · simp [intOf]; omega
    case stop =>
      rintro D c pre W _ _ h _
      exact h.elim
  · obtain rfl : k = ls.length := by omega
    have d0 : decide ((ls.length : Int) < (ls.length : Int)) = false := by simp
    rw [List.take_length] at HI2
    obtain ⟨⟨b5, b6, b7, b8, b9⟩, hBw, hg9⟩ := HI2.out
    have c6 := b6.cell; have c7 := b7.cell; have c9 := b9.cell; have f6 := b6.frozen; have f7 := b7.frozen
    have H6 := Aside0.mk b6
    have H7 := Aside0.mk b7
    clear b5 b6 b7 b8 b9
    have HMs : ∀ (u v : Value), Mk w ds ((wr.setCell ⟨w.heap.size + 1, 0, none⟩ u).setCell ⟨w.heap.size + 1 + 1, 0, none⟩ v) := fun u v => by
      obtain ⟨Ds, m1, m2, m3⟩ := HM.out
      exact ⟨Ds, m1, m2, fun D hD => ⟨(m3 D hD).1, ((KeepsOthers.setCell _ _ _).trans (KeepsOthers.setCell _ _ _)).same D _ (m3 D hD).2 rfl⟩⟩
    have HBs : ∀ (u v : Value), Below w.heap.size w ((wr.setCell ⟨w.heap.size + 1, 0, none⟩ u).setCell ⟨w.heap.size + 1 + 1, 0, none⟩ v) := fun u v => below_set (below_set hBw (by omega)) (by omega)
    have HM6 := Aside0.mk HMs
    have HB6 := Aside0.mk HBs
    clear HMs HBs
    have HWN := Aside0.mk (show windN x y (allE ls) = if okAll x y (allE ls) = true then (if (allE ls).any (onE x y) = true then 0 else wsum x y (allE ls)) else 0 from rfl)
    have HWO := Aside0.mk (show windO x y (allE ls) = (okAll x y (allE ls) && (allE ls).any (onE x y)) from rfl)
    cases hok : okAll x y (allE ls) with
    | false =>
      rw [hok] at c9 HWN HWO
      gi_wp2
      refine wind_end w _ ds _ _ _ rfl rfl ?_ ?_ (HB6.out _ _) (HM6.out _ _)
      · rw [HWN.out]; exact (H6.out.set _).other (by omega) _
      · rw [HWO.out]; exact (H7.out.other (by omega) _).set _
    | true =>
      rw [hok] at c9 HWN HWO
      cases hon : (allE ls).any (onE x y) with
      | false =>
        rw [hon] at c7 HWN HWO
        gi_wp2
        gi_region_with_o (fail)
        all_goals
          change Exit.then _ _ Exit.normal _ (World.drew _)
          gi_wp2
          refine wind_end w _ ds _ _ _ rfl rfl ?_ ?_ (below_drew1 (HB6.out _ _)) (HM6.out _ _)
          · rw [HWN.out]; exact (H6.out.set _).other (by omega) _
          · rw [HWO.out]; exact (H7.out.other (by omega) _).set _
      | true =>
        rw [hon] at c7 HWN HWO
        gi_wp2
        gi_region_with_o (fail)
        all_goals
          change Exit.then _ _ Exit.normal _ (World.drew _)
          gi_wp2
          refine wind_end w _ ds _ _ _ rfl rfl ?_ ?_ (below_drew1 (below_set (below_set (below_set hBw (by omega)) (by omega)) (by omega))) ?_
          · rw [HWN.out]; exact ((H6.out.set _).set _).other (by omega) _
          · rw [HWO.out]; exact ((H7.out.other (by omega) _).other (by omega) _).set _
          · obtain ⟨Ds, m1, m2, m3⟩ := HM.out
            exact ⟨Ds, m1, m2, fun D hD => ⟨(m3 D hD).1, (((KeepsOthers.setCell _ _ _).trans (KeepsOthers.setCell _ _ _)).trans (KeepsOthers.setCell _ _ _)).same D _ (m3 D hD).2 rfl⟩⟩
end Go.Proofs.Ytpfgjagpaddcpaa.Own

/-! Edges, plainly: what its row holds. -/
namespace Go.Proofs.Ytpfgjagpaddcpaa.Own
open Go.RowKit Go.Proofs.YtpfgjagpaddcpaaW.PrintWords Go.Proofs.YtpfgjagpaddcpaaW.PrintLast Go.Proofs.YtpfgjagpaddcpaaW.PrintMore
open Go.Proofs.Ytpfgjagpaddcpaa.X
set_option linter.unusedVariables false
set_option linter.unusedSimpArgs false

/-- An edge's five cells. -/
def edC (t : Int) (e : S23 × S23) : List Value := [.int .i64 e.1.f0, .int .i64 e.1.f1, .int .i64 e.2.f0, .int .i64 e.2.f1, .int .i64 t]
def edCs (t : Int) (es : List (S23 × S23)) : List Value := es.flatMap (edC t)
theorem edCs_snoc (t : Int) (es : List (S23 × S23)) (e : S23 × S23) : edCs t (es ++ [e]) = edCs t es ++ edC t e := by simp [edCs]
theorem edCs_app (t : Int) (es fs : List (S23 × S23)) : edCs t (es ++ fs) = edCs t es ++ edCs t fs := by simp [edCs]
theorem edCs_length (t : Int) (es : List (S23 × S23)) : (edCs t es).length = es.length * 5 := by
  induction es with
  | nil => rfl
  | cons e es ih =>
    have : edCs t (e :: es) = edC t e ++ edCs t es := by simp [edCs]
    rw [this, List.length_append, ih]
    simp [edC]
    omega
theorem info67' : (Try.prog.info? 67).map (fun i => (i.zero, i.size, i.bytes)) = some (some (.agg #[.int .i64 0, .int .i64 0, .int .i64 0, .int .i64 0, .int .i64 0]), 5, 40) := by kernel_rfl
end Go.Proofs.Ytpfgjagpaddcpaa.Own

/-! input.Edges, walked. -/
namespace Go.Proofs.Ytpfgjagpaddcpaa.Own
open Go.RowKit Go.Shelf Go.Proofs.YtpfgjagpaddcpaaW.PrintWords Go.Proofs.YtpfgjagpaddcpaaW.PrintLast Go.Proofs.YtpfgjagpaddcpaaW.PrintMore
open Go.Proofs.Ytpfgjagpaddcpaa.X
set_option linter.unusedVariables false
set_option linter.unusedSimpArgs false
attribute [local go_sem] Oper.semAt_some

/-- What Edges' own boxes hold when n edges, of the cells xs, are over; the number of the area at hand. -/
def EI (w : World) (n : Nat) (xs : List Value) (W : World) : Prop :=
  (∃ v, Boxed W (w.heap.size + 1) 62 v ∧ W.ownsRow w.heap.size 67 5 v n xs ∧ True) ∧ Below w.heap.size w W
def EK (w : World) (g4 : Nat) (k : Int) (n : Nat) (xs : List Value) (W : World) : Prop :=
  EI w n xs W ∧ Boxed W g4 3 (.int .i64 k) ∧ w.heap.size + 1 < g4

theorem EI_below {w : World} {n : Nat} {xs : List Value} {W W' : World} (h : EI w n xs W) (hb : Below W.heap.size W W') : EI w n xs W' := by
  obtain ⟨⟨v, h1, h2, _⟩, h3⟩ := h
  exact ⟨⟨v, (hb.block _ (Array.getElem?_eq_some_iff.1 h1).1).trans h1, pw_own_below h2 hb, trivial⟩, h3.trans (hb.mono h3.size)⟩
theorem EK_below {w : World} {g4 : Nat} {k : Int} {n : Nat} {xs : List Value} {W W' : World} (h : EK w g4 k n xs W) (hb : Below W.heap.size W W') : EK w g4 k n xs W' :=
  ⟨EI_below h.1 hb, (hb.block _ (Array.getElem?_eq_some_iff.1 h.2.1).1).trans h.2.1, h.2.2⟩

theorem EK_own {β : Type} (w : World) (g4 : Nat) (k : Int) (n : β → Nat) (xs : β → List Value) (B : Nat) (hB : w.heap.size ≤ B) : OwnFrom B (fun s W => EK w g4 k (n s) (xs s) W) := by
  intro s X Y row hs hg hr
  obtain ⟨⟨h1, h2⟩, h3, h4⟩ := hs
  have hr' : ∀ r, row = some r → ∃ o : Obj, X.heap[r]? = some o ∧ o.isCells = false := fun r e => (hr r e).2
  exact ⟨⟨holdsRow_own w.heap.size (w.heap.size + 1) 62 67 5 (fun _ : Unit => n s) (fun _ => xs s) (fun _ _ => True) () X Y row h1 hg hr', h2.grown hg h2.size (fun k e => Nat.le_trans hB (hr k e).1)⟩,
    cells_own _ (fun _ : Unit => _) 3 () X Y row h3 hg hr', h4⟩

theorem info67p : ∃ i0, Try.prog.info? 67 = some i0 ∧ i0.zero = some (.agg #[.int .i64 0, .int .i64 0, .int .i64 0, .int .i64 0, .int .i64 0]) ∧ i0.size = 5 ∧ i0.bytes = 40 := info_parts info67'

/-- What is over when k areas are. -/
def dnC (la lb : List (List S23)) (k : Nat) : List Value := if k = 0 then [] else if k = 1 then edCs 0 (allE la) else edCs 0 (allE la) ++ edCs 1 (allE lb)
def dnN (la lb : List (List S23)) (k : Nat) : Nat := if k = 0 then 0 else if k = 1 then (allE la).length else (allE la).length + (allE lb).length

theorem allE_len (ls : List (List S23)) (i : Nat) : (allE (ls.take i)).length ≤ (allE ls).length := by
  have h2 : allE ls = allE (ls.take i) ++ allE (ls.drop i) := by
    have : ls = ls.take i ++ ls.drop i := (List.take_append_drop _ _).symm
    (conv => lhs; rw [this]); exact List.flatMap_append
  rw [h2, List.length_append]; omega

theorem edges_end (w : World) (tmps : Array Value) (ds : List Deferred) (V : World) (v : Value) (R : Value → World → Prop) (h2 : tmps.getD 2 undef = v) (hM : Mk w ds V) (n : Nat) (xs : List Value) (hv : V.ownsRow w.heap.size 67 5 v n xs) (hB : Below w.heap.size w V)
    (hR : ∀ V', V'.ownsRow w.heap.size 67 5 v n xs → Below w.heap.size w V' → R v V') :
    bodyPostM Fence.wide 9 Try.prog Try.f47 (fun e w' => ∃ v, e = .returned v ∧ R v w') .ret { tmps := tmps, defers := ds } V := by
  obtain ⟨Ds, m1, m2, m3⟩ := hM
  refine leaves_marks (u := .returning) (by simp) (fun W => W.ownsRow w.heap.size 67 5 v n xs ∧ Below w.heap.size w W) w.heap.size ?_ ?_ Ds ds V m2 m1 m3 ⟨hv, hB⟩
  · rintro W D ⟨k6, kB⟩ hD hK
    exact ⟨ownsRow_putObj k6 _ hK rfl, kB.grown (grownBy_putObj' W D (.deferred none)) kB.size (fun k e => by cases e; exact hD)⟩
  · rintro W ⟨k6, kB⟩
    exact ⟨v, (by rw [← h2]; exact results_tmp rfl _ _ _), v, rfl, hR W k6 kB⟩

set_option maxRecDepth 100000 in
set_option maxHeartbeats 8000000 in
theorem edges_any (A B : Option Addr) (ca cb : Nat) (la lb : List (List S23)) (o f r c : Int) (w : World) (hA : Kd.C (Kd.slice 23 k23) w A la.length la) (hB : Kd.C (Kd.slice 23 k23) w B lb.length lb)
    (hm : (allE la).length + (allE lb).length ≤ 1000000000000) (hma : la.length ≤ 1000000000000) (hmb : lb.length ≤ 1000000000000) :
    Calls Try.prog 47 #[.agg #[.slice A la.length ca, .slice B lb.length cb, .int .i64 o, .int .i64 f, .int .i64 r, .int .i64 c]] w fun e w' =>
      (∃ v, e = .returned v ∧ w'.ownsRow w.heap.size 67 5 v ((allE la).length + (allE lb).length) (edCs 0 (allE la) ++ edCs 1 (allE lb)) ∧ Below w.heap.size w w') := by
  have hmx : Try.prog.follows .mixedOrders = true := by kernel_rfl
  have hu23 := Try.underlying23
  have hu41 := Try.underlying41
  have HA := Aside0.mk hA
  have HB := Aside0.mk hB
  have HM := Aside0.mk hm
  have HMA := Aside0.mk hma
  have HMB := Aside0.mk hmb
  clear hA hB hm hma hmb
  refine (callsIn_wide (n := 9)).1 ?_
  refine callsIn_of_wp_marks Try.func47 rfl trivial ?_ rfl
  simp only [Try.ntmps47, List.size_toArray, List.length_cons, List.length_nil, Nat.reduceAdd, Nat.reduceSub, Array.replicate_succ, Array.replicate_zero, List.push_toArray, List.append_toArray, List.nil_append, List.cons_append]
  gi_wp2
  have HI : Aside0 (EI w 0 [] ((w.alloc (.cells #[.slice A la.length ca, .slice B lb.length cb, .int .i64 o, .int .i64 f, .int .i64 r, .int .i64 c] 41)).alloc (.cells #[.slice none 0 0] 62))) := by
    have b5 := Boxed.new (w.alloc (.cells #[.slice A la.length ca, .slice B lb.length cb, .int .i64 o, .int .i64 f, .int .i64 r, .int .i64 c] 41)) 62 (.slice none 0 0)
    rw [World.size_alloc] at b5
    exact ⟨⟨_, b5, World.ownsRow_nil _ _ _ _, trivial⟩, ((Below.refl _ w).alloc (Nat.le_refl _) _).alloc (by simp) _⟩
  generalize (w.alloc (.cells #[.slice A la.length ca, .slice B lb.length cb, .int .i64 o, .int .i64 f, .int .i64 r, .int .i64 c] 41)).alloc (.cells #[.slice none 0 0] 62) = W0 at HI ⊢
  refine wpIn_loop (fun a' wr => ∃ (k : Nat) (ds : List Deferred) (u4 u5 u7 u8 u9 u16 u17 u18 u19 u20 u21 u22 u23 u24 u25 u26 u27 u28 u29 u30 u31 u32 u33 u34 u35 u36 u37 : Value), (Aside0 (k ≤ 2) ∧ Aside0 (EI w (dnN la lb k) (dnC la lb k) wr) ∧ Aside0 (Mk w ds wr)) ∧ a' = { tmps := List.toArray ((.agg #[.slice A la.length ca, .slice B lb.length cb, .int .i64 o, .int .i64 f, .int .i64 r, .int .i64 c]) :: (.pointer (some ⟨w.heap.size, 0, none⟩)) :: (.slice none 0 0) :: (.pointer (some ⟨w.heap.size + 1, 0, none⟩)) :: (u4) :: (u5) :: (undef) :: (u7) :: (u8) :: (u9) :: (.pointer (some ⟨w.heap.size, 0, none⟩)) :: (.slice A la.length ca) :: (.pointer (some ⟨w.heap.size, 1, none⟩)) :: (.slice B lb.length cb) :: (.agg #[.slice A la.length ca, .slice B lb.length cb]) :: (.int .i64 k) :: (u16) :: (u17) :: (u18) :: (u19) :: (u20) :: (u21) :: (u22) :: (u23) :: (u24) :: (u25) :: (u26) :: (u27) :: (u28) :: (u29) :: (u30) :: (u31) :: (u32) :: (u33) :: (u34) :: (u35) :: (u36) :: (u37) :: (undef) :: []), defers := ds }) (fun a' _ => 3 - (intOf (a'.tmps.getD 15 undef)).toNat) ?_ ?_
  · refine ⟨0, [], _, _, _, _, _, _, _, _, _, _, _, _, _, _, _, _, _, _, _, _, _, _, _, _, _, _, _, ⟨⟨by omega⟩, HI, ⟨⟨[], List.nodup_nil, rfl, fun _ h => by cases h⟩⟩⟩, rfl⟩
  intro a' wr hinv
  obtain ⟨k, ds, u4, u5, u7, u8, u9, u16, u17, u18, u19, u20, u21, u22, u23, u24, u25, u26, u27, u28, u29, u30, u31, u32, u33, u34, u35, u36, u37, ⟨Hk, HI2, HM2⟩, rfl⟩ := hinv
  clear HI
  have hk := Hk.out
  by_cases hlt : k < 2
  · have d0 : decide ((k : Int) < 2) = true := decide_eq_true (by omega)
    obtain ⟨X, lX, cX, hX, HX⟩ : ∃ (X : Option Addr) (lX : List (List S23)) (cX : Nat), (∀ w', (Instr.index 84 (.agg #[.slice A la.length ca, .slice B lb.length cb]) (.int .i64 (k : Int))).run Try.prog w' = .ok (.slice X lX.length cX) w') ∧ Aside0 (Kd.C (Kd.slice 23 k23) w X lX.length lX ∧ lX.length ≤ 1000000000000 ∧ dnN la lb (k + 1) = dnN la lb k + (allE lX).length ∧ dnC la lb (k + 1) = dnC la lb k ++ edCs k (allE lX) ∧ dnN la lb (k + 1) ≤ 1000000000000) := by
      have hk2 : k = 0 ∨ k = 1 := by omega
      rcases hk2 with rfl | rfl
      · exact ⟨A, la, ca, fun _ => by kernel_rfl, ⟨HA.out, HMA.out, by simp [dnN], by simp [dnC], by have := HM.out; simp [dnN]; omega⟩⟩
      · exact ⟨B, lb, cb, fun _ => by kernel_rfl, ⟨HB.out, HMB.out, by simp [dnN], by simp [dnC], by have := HM.out; simp [dnN]; omega⟩⟩
    gi_wp2
    have HI3 : Aside0 (EK w wr.heap.size k (dnN la lb k) (dnC la lb k) (wr.alloc (.cells #[.int .i64 (k : Int)] 3))) :=
      ⟨⟨EI_below HI2.out ((Below.refl _ wr).alloc (Nat.le_refl _) _), Boxed.new wr 3 (.int .i64 (k : Int)), by obtain ⟨⟨v, h1, _⟩, _⟩ := HI2.out; exact h1.lt⟩⟩
    have HM3 : Aside0 (Mk w ds (wr.alloc (.cells #[.int .i64 (k : Int)] 3))) := ⟨by
      obtain ⟨Ds, h1, h2, h3⟩ := HM2.out
      exact ⟨Ds, h1, h2, fun D hD => ⟨(h3 D hD).1, (KeepsOthers.alloc wr _).same D _ (h3 D hD).2 rfl⟩⟩⟩
    obtain ⟨g4, hg4⟩ : ∃ g4, wr.heap.size = g4 := ⟨_, rfl⟩
    rw [hg4] at HI3 ⊢
    generalize wr.alloc (.cells #[.int .i64 (k : Int)] 3) = WX at HI3 HM3 ⊢
    clear HI2 HM2 hg4 hX
    clear wr
    obtain ⟨n0, hn0⟩ : ∃ n0, dnN la lb k = n0 := ⟨_, rfl⟩
    obtain ⟨x0, hx0⟩ : ∃ x0, dnC la lb k = x0 := ⟨_, rfl⟩
    obtain ⟨h1, h2, h3, h4, h5⟩ := HX.out
    rw [hn0] at h3 HI3
    rw [hx0] at h4 HI3
    have HCX := Aside0.mk h1
    have HLX := Aside0.mk h2
    have HN1 := Aside0.mk h3
    have HC1 := Aside0.mk h4
    have HT1 := Aside0.mk (show n0 + (allE lX).length ≤ 1000000000000 by omega)
    clear h1 h2 h3 h4 h5 HX hn0 hx0 d0
    refine wpIn_loop (fun a' wr => ∃ (j : Nat) (ds : List Deferred) (u7 u8 u9 u22 u23 u24 u25 u26 u27 u28 u29 u30 u31 u32 u33 u34 u35 u36 u37 : Value), (Aside0 (j ≤ lX.length) ∧ Aside0 (EK w g4 k (n0 + (allE (lX.take j)).length) (x0 ++ edCs k (allE (lX.take j))) wr) ∧ Aside0 (Mk w ds wr)) ∧ a' = { tmps := List.toArray ((.agg #[.slice A la.length ca, .slice B lb.length cb, .int .i64 o, .int .i64 f, .int .i64 r, .int .i64 c]) :: (.pointer (some ⟨w.heap.size, 0, none⟩)) :: (.slice none 0 0) :: (.pointer (some ⟨w.heap.size + 1, 0, none⟩)) :: (.pointer (some ⟨g4, 0, none⟩)) :: (.slice X lX.length cX) :: (undef) :: (u7) :: (u8) :: (u9) :: (.pointer (some ⟨w.heap.size, 0, none⟩)) :: (.slice A la.length ca) :: (.pointer (some ⟨w.heap.size, 1, none⟩)) :: (.slice B lb.length cb) :: (.agg #[.slice A la.length ca, .slice B lb.length cb]) :: (.int .i64 k) :: (.bool true) :: (.int .i64 k) :: (.slice X lX.length cX) :: (.slice X lX.length cX) :: (.int .i64 lX.length) :: (.int .i64 j) :: (u22) :: (u23) :: (u24) :: (u25) :: (u26) :: (u27) :: (u28) :: (u29) :: (u30) :: (u31) :: (u32) :: (u33) :: (u34) :: (u35) :: (u36) :: (u37) :: (undef) :: []), defers := ds }) (fun a' _ => lX.length - (intOf (a'.tmps.getD 21 undef)).toNat) ?_ ?_
    · refine ⟨0, ds, _, _, _, _, _, _, _, _, _, _, _, _, _, _, _, _, _, _, _, ⟨⟨Nat.zero_le _⟩, by simpa [allE, edCs] using HI3, HM3⟩, rfl⟩
    intro a' wr hinv
    clear HI3 HM3
    obtain ⟨j, ds, u7, u8, u9, u22, u23, u24, u25, u26, u27, u28, u29, u30, u31, u32, u33, u34, u35, u36, u37, ⟨Hj, HI4, HM4⟩, rfl⟩ := hinv
    have hj := Hj.out
    by_cases hjt : j < lX.length
    · have hjt' : (j : Int) < (lX.length : Int) := by omega
      have d0 : decide ((j : Int) < (lX.length : Int)) = true := decide_eq_true hjt'
      obtain ⟨ad, A0, c0, e1, hz0, hc0, hC0⟩ := at_L2 HCX.out (j : Int) (by omega) hjt'
      cases e1
      simp only [Int.toNat_natCast] at hz0
      replace hz0 := (HI4.out.1.2.cell (World.block_lt_of_cell? w _ hz0)).trans hz0
      have q0 : (0 : Int) ≤ (j : Int) := by omega
      obtain ⟨r0, hr⟩ : ∃ r0, rd_L2 lX (j : Int) = r0 := ⟨_, rfl⟩
      rw [hr] at hz0 hc0 hC0
      have HCr := Aside0.mk hC0
      have HR := Aside0.mk (show lX.getD j [] = r0 by rw [← hr]; simp [rd_L2])
      clear hC0 hr
      have HT := Aside0.mk (show allE (lX.take (j + 1)) = allE (lX.take j) ++ edgs r0 by rw [allE_take lX j hjt, HR.out])
      have HN := Aside0.mk (allE_len lX (j + 1))
      gi_wp2_with (refine ⟨trivial, ?_⟩; gi_at_call 56; refine (sides_in _ _ _ _ _).mono ?_; rintro e w' ⟨rfl, rfl⟩)
      obtain ⟨E0, hE0⟩ : ∃ E0, allE (lX.take j) = E0 := ⟨_, rfl⟩
      rw [hE0] at HI4 HT
      clear hz0 d0 hE0
      have HBx := Aside0.mk (Boxed.new wr 47 (.slice A0 r0.length c0))
      have HI5 := Aside0.mk (EK_below HI4.out ((Below.refl _ wr).alloc (Nat.le_refl _) (.cells #[.slice A0 r0.length c0] 47)))
      have HM5 := Aside0.mk (show Mk w ds (wr.alloc (.cells #[.slice A0 r0.length c0] 47)) by
        obtain ⟨Ds, h1, h2, h3⟩ := HM4.out
        exact ⟨Ds, h1, h2, fun D hD => ⟨(h3 D hD).1, (KeepsOthers.alloc wr _).same D _ (h3 D hD).2 rfl⟩⟩)
      have HG3 := Aside0.mk (show g4 < wr.heap.size from HI4.out.2.1.lt)
      obtain ⟨Bs, hBs⟩ : ∃ Bs, wr.heap.size = Bs := ⟨_, rfl⟩
      rw [hBs] at HBx HG3 ⊢
      generalize wr.alloc (.cells #[.slice A0 r0.length c0] 47) = WL at HBx HI5 HM5 ⊢
      have HW3 := Aside0.mk (show w.heap.size ≤ WL.heap.size from HI5.out.1.2.size)
      have HBL := Aside0.mk (show Bs < WL.heap.size from HBx.out.lt)
      clear HM4 HI4 hBs
      clear wr
      have HL := Aside0.mk (show E0.length + r0.length ≤ (allE lX).length by have := HN.out; rw [HT.out, List.length_append, edgs_length] at this; omega)
      refine wpIn_rangeFunc_ownH rfl (by omega) (gf := 71) (lb := #[.pointer (some ⟨Bs, 0, none⟩)]) rfl trivial (enters_of Try.func71 (by kernel_rfl) rfl)
        (sides_stops 8 (by omega) Bs w.heap.size w WL A0 c0 r0 HCr.out hc0 (by have := HL.out; have := HT1.out; omega) rfl HI5.out.1.2 HBx.out) KpR_t (KpR_b HW3.out HBL.out) (Below.refl _ _) (fun _ => rfl)
        (fun pre W => EK w g4 k (n0 + (E0 ++ pre).length) (x0 ++ edCs k (E0 ++ pre)) W ∧ Boxed W Bs 47 (.slice A0 r0.length c0) ∧ KeepsFrom w.heap.size WL W)
        (fun _ _ _ => False)
        (OwnFrom.and (EK_own w g4 k (fun pre : List (S23 × S23) => n0 + (E0 ++ pre).length) (fun pre => x0 ++ edCs k (E0 ++ pre)) _ HW3.out) (OwnFrom.and (Own.from (cells_own Bs (fun _ => #[.slice A0 r0.length c0]) 47) _) (ownFrom_keepsFrom (Nat.le_refl _))))
        (fun _ _ _ _ _ hs _ _ => hs)
        ⟨by rw [List.append_nil]; exact HI5.out, HBx.out, KeepsFrom.refl _ _⟩
        (fun e a' W => ∃ b8 b9, Bs < b8 ∧ Bs < b9 ∧ W.heap[b8]? = some (.cells #[.int .i64 e.1.f0, .int .i64 e.1.f1] 23 (0, 0)) ∧ W.heap[b9]? = some (.cells #[.int .i64 e.2.f0, .int .i64 e.2.f1] 23 (0, 0)) ∧ a' = { tmps := List.toArray ((.agg #[.slice A la.length ca, .slice B lb.length cb, .int .i64 o, .int .i64 f, .int .i64 r, .int .i64 c]) :: (.pointer (some ⟨w.heap.size, 0, none⟩)) :: (.slice none 0 0) :: (.pointer (some ⟨w.heap.size + 1, 0, none⟩)) :: (.pointer (some ⟨g4, 0, none⟩)) :: (.slice (some ad) lX.length cX) :: (undef) :: (.slice A0 r0.length c0) :: (.pointer (some ⟨b8, 0, none⟩)) :: (.pointer (some ⟨b9, 0, none⟩)) :: (.pointer (some ⟨w.heap.size, 0, none⟩)) :: (.slice A la.length ca) :: (.pointer (some ⟨w.heap.size, 1, none⟩)) :: (.slice B lb.length cb) :: (.agg #[.slice A la.length ca, .slice B lb.length cb]) :: (.int .i64 k) :: (.bool true) :: (.int .i64 k) :: (.slice (some ad) lX.length cX) :: (.slice (some ad) lX.length cX) :: (.int .i64 lX.length) :: (.int .i64 j) :: (.bool true) :: (.pointer (some (ad.add j))) :: (.slice A0 r0.length c0) :: (.slice A0 r0.length c0) :: (.func (.func 71) #[] #[.pointer (some ⟨Bs, 0, none⟩)]) :: (ptV e.1.f0 e.1.f1) :: (ptV e.2.f0 e.2.f1) :: (u29) :: (u30) :: (u31) :: (u32) :: (u33) :: (u34) :: (u35) :: (u36) :: (u37) :: (undef) :: []), defers := [] })
        (fun e a' _ X Y row hs hg hr => by
          obtain ⟨b8, b9, h1, h2, h3, h4, h5⟩ := hs
          have hr' : ∀ r, row = some r → ∃ o : Obj, X.heap[r]? = some o ∧ o.isCells = false := fun r e => (hr r e).2
          exact ⟨b8, b9, h1, h2, cells_own _ (fun _ : Unit => _) 23 () X Y row h3 hg hr', cells_own _ (fun _ : Unit => _) 23 () X Y row h4 hg hr', h5⟩)
        ?assign ?body ?done ?stop
      case assign =>
        rintro lp pre e W K ⟨hi, hbx, hk⟩ hK
        have hB2 : Below W.heap.size W ((W.alloc (.cells #[.int .i64 e.1.f0, .int .i64 e.1.f1] 23)).alloc (.cells #[.int .i64 e.2.f0, .int .i64 e.2.f1] 23)) := ((Below.refl _ W).alloc (Nat.le_refl _) _).alloc (by simp) _
        have hsz := hk.size
        have hKO := keeps_below hB2
        have hws := hi.1.2.size
        have hbl := HBL.out
        have k0 := Below.heap_alloc (W.alloc (.cells #[.int .i64 e.1.f0, .int .i64 e.1.f1] 23)) (.cells #[.int .i64 e.2.f0, .int .i64 e.2.f1] 23) W.heap.size (by simp)
        have k1 := blk_new W (.cells #[.int .i64 e.1.f0, .int .i64 e.1.f1] 23)
        have k2 := blk_new (W.alloc (.cells #[.int .i64 e.1.f0, .int .i64 e.1.f1] 23)) (.cells #[.int .i64 e.2.f0, .int .i64 e.2.f1] 23)
        rw [World.size_alloc] at k2
        gi_wp2
        exact hK _ _ (hKO.from _) ⟨hB2.mono hws, hB2.block _ (by omega)⟩ ⟨EK_below hi hB2, (hB2.block _ hbx.lt).trans hbx, hk.trans (hKO.from _)⟩ ⟨W.heap.size, W.heap.size + 1, by omega, by omega, k0.trans k1, k2, rfl⟩
      case body =>
        rintro lp pre e a' W hl ⟨rc, hrc⟩ ⟨hi, hbx, hk⟩ ⟨b8, b9, h12, h13, k12, k13, rfl⟩ hlt2
        have HKW := Aside0.mk hk
        have HSZ := Aside0.mk (Nat.lt_of_lt_of_le HBL.out hk.size)
        have hN2 : n0 + (E0 ++ pre).length + 1 ≤ 1000000000000 := by
          have h1 := HL.out
          have h2 := HT1.out
          rw [List.length_append]
          omega
        obtain ⟨E, hE⟩ : ∃ E, E0 ++ pre = E := ⟨_, rfl⟩
        have HE := Aside0.mk (show E0 ++ (pre ++ [e]) = E ++ [e] by rw [← hE, List.append_assoc])
        rw [hE] at hi hN2
        have HIW := Aside0.mk hi
        obtain ⟨⟨⟨v, hv, hrow, _⟩, hbw⟩, hof, hg4⟩ := hi
        have c3 := hv.cell
        have c4 := hof.cell
        have c80 := cell0 0 k12 rfl; have c81 := cell0 1 k12 rfl; have c90 := cell0 0 k13 rfl; have c91 := cell0 1 k13 rfl
        obtain ⟨i0, hi, hz0, hz1, hz2⟩ := info_parts info67'
        have HV := Aside0.mk hv
        have HRW := Aside0.mk hrow
        have HBW := Aside0.mk hbw
        have HOF := Aside0.mk hof
        have HG4 := Aside0.mk hg4
        clear hk hrc hl k12 k13 hE hv hg4
        have hcs : ∀ (j' : Nat) u, (edC k e)[j']? = some u → (W.alloc (.cells #[.int .i64 e.1.f0, .int .i64 e.1.f1, .int .i64 e.2.f0, .int .i64 e.2.f1, .int .i64 (k : Int)] 67)).cell? ((⟨W.heap.size, 0, none⟩ : Addr).add j') = some u := by
          intro j' u hu
          rw [addr_add]
          exact cell0 j' (blk_new W _) (by simpa [edC] using hu)
        have HCS := Aside0.mk hcs
        have hb1 : n0 + E.length + 1 ≤ maxLen := by unfold maxLen; omega
        have hb2 : (n0 + E.length + 1) * 40 ≤ 140737488355328 := by omega
        have HBR := Aside0.mk (hbx.not_row (show (47 : TypeId) ≠ 67 by decide) hrow)
        have HBX := Aside0.mk hbx
        have HNR := Aside0.mk (hof.not_row (show (3 : TypeId) ≠ 67 by decide) hrow)
        have HB0 := Aside0.mk (show w.heap.size ≤ (W.alloc (.cells #[.int .i64 e.1.f0, .int .i64 e.1.f1, .int .i64 e.2.f0, .int .i64 e.2.f1, .int .i64 (k : Int)] 67)).heap.size by have := hbw.size; simp; omega)
        have HE1 := Aside0.mk (show ∀ u ∈ edC k e, u.oneCell' = true by intro u hu; simp [edC] at hu; rcases hu with rfl | rfl | rfl | rfl | rfl <;> rfl)
        have HB1 := Aside0.mk hb1
        have HB2 := Aside0.mk hb2
        clear hcs hb1 hb2 hN2 hbw hof hrow hbx
        gi_wp2_with (gi_at_builtin; refine wpListIn_append_own _ rfl _ _ 62 rfl w.heap.size 67 i0 (.agg #[.int .i64 0, .int .i64 0, .int .i64 0, .int .i64 0, .int .i64 0]) 5 40 Try.underlying62 hi hz0 hz1 hz2 rfl (by decide) _ _ _ rfl (HRW.out.alloc _) ⟨W.heap.size, 0, none⟩ 1 1 (edC k e) rfl rfl HCS.out HE1.out HB1.out HB2.out HB0.out ?_; intro v' w1 hown' hgrow _; obtain ⟨g', cap', rfl⟩ := ownsRow_succ hown'; obtain ⟨hv1, hv2, hr2, hk2, hb2⟩ := HV.out.appended (by decide) HRW.out HBW.out.size (Nat.le_succ _) hown' hgrow; have hc1 := hv1.cell; have hf1 := hv1.frozen; have HV2 := Aside0.mk hv2; have HR2 := Aside0.mk hr2; have HK2 := Aside0.mk hk2; have HB3 := Aside0.mk hb2; have HO2 := Aside0.mk ((HOF.out.alloc _).kept hgrow HNR.out); have HBX2 := Aside0.mk ((HBX.out.alloc _).kept hgrow HBR.out); clear hv1 hv2 hr2 hk2 hb2 hown' hgrow)
        have hg4 := HG4.out
        have hgl := HG3.out
        have hO := HO2.out.other (show g4 ≠ w.heap.size + 1 by omega) (.slice (some ⟨g', 0, none⟩) (n0 + E.length + 1) cap')
        have hX := HBX2.out.other (show Bs ≠ w.heap.size + 1 by omega) (.slice (some ⟨g', 0, none⟩) (n0 + E.length + 1) cap')
        refine ⟨HK2.out.from _, ⟨HB3.out, hX.trans HBX.out.symm⟩, ?_, hX, HKW.out.trans (HK2.out.from _)⟩
        rw [HE.out]
        refine ⟨⟨⟨_, HV2.out, ?_, trivial⟩, HBW.out.trans HB3.out⟩, hO, HG4.out⟩
        rw [edCs_snoc, ← List.append_assoc, List.length_append]
        exact HR2.out
      case done =>
        rintro D es W hD rfl ⟨hi, hbx, hk⟩ hK
        have HI6 := Aside0.mk (show EK w g4 k (n0 + (allE (lX.take (j + 1))).length) (x0 ++ edCs k (allE (lX.take (j + 1)))) W by rw [HT.out]; exact hi)
        have HM6 := Aside0.mk (show Mk w ({ target := .collected D, args := #[] } :: ds) W by
          obtain ⟨Ds, m1, m2, m3⟩ := HM5.out
          have hlt3 : ∀ D' ∈ Ds, D' < WL.heap.size := fun D' hD' => (Array.getElem?_eq_some_iff.1 (m3 D' hD').2).1
          exact ⟨D :: Ds, List.nodup_cons.2 ⟨fun h => by have := hlt3 D h; omega, m1⟩, by simp [m2], fun D' hD' => by
            rcases List.mem_cons.1 hD' with rfl | h
            · exact ⟨Nat.le_trans HW3.out hD, hK⟩
            · exact ⟨(m3 _ h).1, hk.same D' _ (m3 _ h).1 (m3 _ h).2 rfl⟩⟩)
        clear hi hbx hk hK HM5 HI5
        have hjb : (j : Int) ≤ 1000000000000 := by have := HLX.out; omega
        gi_wp2
        refine ⟨⟨j + 1, { target := .collected D, args := #[] } :: ds, ?_⟩, ?_⟩
        · (repeat apply Exists.intro)
          exact ⟨⟨⟨by omega⟩, HI6, HM6⟩, rfl⟩
        · simp [intOf]; omega
      case stop =>
        rintro D c pre W _ _ h _
        exact h.elim
    · obtain rfl : j = lX.length := by omega
      have d0 : decide ((lX.length : Int) < (lX.length : Int)) = false := by simp
      rw [List.take_length] at HI4
      have hi4 := HI4.out.1
      rw [← HN1.out, ← HC1.out] at hi4
      have HI7 := Aside0.mk hi4
      clear hi4
      gi_wp2
      refine ⟨⟨k + 1, ds, ?_⟩, ?_⟩
      · (repeat apply Exists.intro)
        exact ⟨⟨⟨by omega⟩, HI7, HM4⟩, rfl⟩
      · simp [intOf]; omega
  · obtain rfl : k = 2 := by omega
    have d0 : decide (((2 : Nat) : Int) < 2) = false := by decide
    have HI8 := Aside0.mk (show EI w ((allE la).length + (allE lb).length) (edCs 0 (allE la) ++ edCs 1 (allE lb)) wr from by have h := HI2.out; simpa [dnN, dnC] using h)
    obtain ⟨⟨v, hv, hrow, _⟩, hbw⟩ := HI8.out
    have c3 := hv.cell
    have HRW := Aside0.mk hrow
    have HBW := Aside0.mk hbw
    clear hv hrow hbw
    gi_wp2
    exact edges_end w _ ds _ v (fun v' w' => w'.ownsRow w.heap.size 67 5 v' ((allE la).length + (allE lb).length) (edCs 0 (allE la) ++ edCs 1 (allE lb)) ∧ Below w.heap.size w w') rfl HM2.out _ _ HRW.out HBW.out (fun V' h1 h2 => ⟨h1, h2⟩)
end Go.Proofs.Ytpfgjagpaddcpaa.Own
