import Derived.Test.YtpfgjagpaddcpaaBa6
import Derived.SizedLaws
/-! Texts that this law leans on, put together by a program of this session: Q2 Q4 G9 V1 V2 V4 V3. -/
/-! Wind by a ray to the right, and by a ray upwards: the same around rings; the reference's edges, right and Wind. -/
namespace Go.Proofs.Ytpfgjagpaddcpaa.Own
open Go.RowKit Go.Proofs.YtpfgjagpaddcpaaW.PrintWords Go.Proofs.YtpfgjagpaddcpaaW.PrintLast Go.Proofs.YtpfgjagpaddcpaaW.PrintMore
open Go.Proofs.Ytpfgjagpaddcpaa.X
set_option linter.unusedVariables false
set_option linter.unusedSimpArgs false

/-- What the ray to the right counts, and the ray upwards; both relative to the place; c: the product. -/
def rW (ax ay bx bY c : Int) : Int := if ay ≤ 0 ∧ ¬ bY ≤ 0 ∧ ¬ c ≤ 0 then 1 else if bY ≤ 0 ∧ ¬ ay ≤ 0 ∧ ¬ 0 ≤ c then -1 else 0
/-- Is a point right, and so twice it. -/
def okP (p : S23) : Bool := rightB p.f0 p.f1 && rightB (2 * p.f0) (2 * p.f1)
theorem okP_tw (p : S23) : rightB (tw p).f0 (tw p).f1 = okP p := by
  unfold tw okP
  cases h : rightB p.f0 p.f1 with
  | true => simp
  | false => simp; decide
theorem tw_of {p : S23} (h : okP p = true) : tw p = ⟨2 * p.f0, 2 * p.f1⟩ := by
  unfold okP at h
  rw [Bool.and_eq_true] at h
  unfold tw
  rw [if_pos h.1]

theorem pth_fst (xs : List S23) : ∀ a b : S23, (pth a (xs ++ [b])).map Prod.fst = a :: xs := by
  induction xs with
  | nil => intro a b; rfl
  | cons c xs ih => intro a b; simp [pth, ih c b]
theorem edgs_fst (l : List S23) : (edgs l).map Prod.fst = l := by
  cases l with
  | nil => rfl
  | cons a r => exact pth_fst r a a
theorem pth_snd (xs : List S23) : ∀ a b : S23, (pth a (xs ++ [b])).map Prod.snd = xs ++ [b] := by
  induction xs with
  | nil => intro a b; rfl
  | cons c xs ih => intro a b; simp [pth, ih c b]
theorem edgs_snd (l : List S23) : ∀ e ∈ edgs l, e.2 ∈ l := by
  cases l with
  | nil => intro e h; cases h
  | cons a r =>
    intro e h
    have h1 : e.2 ∈ (pth a (r ++ [a])).map Prod.snd := List.mem_map.2 ⟨e, h, rfl⟩
    rw [pth_snd] at h1
    simp at h1 ⊢
    rcases h1 with h1 | h1
    · exact Or.inr h1
    · exact Or.inl h1
theorem all_fst (l : List S23) : (edgs l).all okE = l.all okP := by
  conv => rhs; rw [← edgs_fst l, List.all_map]
  congr 1
  funext e
  exact okP_tw e.1

/-- Are all points right, twice, and the place. -/
def rightL (ls : List (List S23)) (x y : Int) : Bool := ls.all (fun r => r.all okP) && rightB x y
theorem rightL_ok (ls : List (List S23)) (x y : Int) : okAll x y (allE ls) = rightL ls x y := by
  unfold okAll rightL allE
  rw [Bool.and_comm]
  congr 1
  induction ls with
  | nil => rfl
  | cons r rs ih => simp only [List.flatMap_cons, List.all_append, List.all_cons, ih, all_fst]

/-! #### the two rays -/
theorem cross_rel (ax ay bx by_ x y : Int) (h1 : rightB ax ay = true) (h2 : rightB bx by_ = true) (h3 : rightB x y = true) : crossB ax ay bx by_ x y = (ax - x) * (by_ - y) - (bx - x) * (ay - y) := by
  unfold crossB
  rw [if_pos ⟨h1, h2, h3⟩]
  grind

theorem sgn_pos (n : Int) : 0 < sgn n ↔ 0 < n := by unfold sgn; split <;> (try split) <;> omega
theorem sgn_neg (n : Int) : sgn n < 0 ↔ n < 0 := by unfold sgn; split <;> (try split) <;> omega
theorem wnE_rel (x y : Int) (e : S23 × S23) : wnE x y e = rW ((tw e.1).f0 - x) ((tw e.1).f1 - y) ((tw e.2).f0 - x) ((tw e.2).f1 - y) (crossB (tw e.1).f0 (tw e.1).f1 (tw e.2).f0 (tw e.2).f1 x y) := by
  unfold wnE upE dnE rW tuE
  simp only [sgn_pos, sgn_neg, decide_eq_true_eq]
  have e1 : ((tw e.1).f1 ≤ y ∧ y < (tw e.2).f1 ∧ 0 < crossB (tw e.1).f0 (tw e.1).f1 (tw e.2).f0 (tw e.2).f1 x y) ↔ ((tw e.1).f1 - y ≤ 0 ∧ ¬ (tw e.2).f1 - y ≤ 0 ∧ ¬ crossB (tw e.1).f0 (tw e.1).f1 (tw e.2).f0 (tw e.2).f1 x y ≤ 0) := by omega
  have e2 : ((tw e.2).f1 ≤ y ∧ y < (tw e.1).f1 ∧ crossB (tw e.1).f0 (tw e.1).f1 (tw e.2).f0 (tw e.2).f1 x y < 0) ↔ ((tw e.2).f1 - y ≤ 0 ∧ ¬ (tw e.1).f1 - y ≤ 0 ∧ ¬ 0 ≤ crossB (tw e.1).f0 (tw e.1).f1 (tw e.2).f0 (tw e.2).f1 x y) := by omega
  simp only [e1, e2]

/-! #### the reference's edges -/
/-! #### right -/
/-! #### the reference's Wind -/
end Go.Proofs.Ytpfgjagpaddcpaa.Own

/-! Rings, and a place, moved alike. -/
namespace Go.Proofs.Ytpfgjagpaddcpaa.Own
open Go.RowKit Go.Proofs.YtpfgjagpaddcpaaW.PrintWords Go.Proofs.YtpfgjagpaddcpaaW.PrintLast Go.Proofs.YtpfgjagpaddcpaaW.PrintMore
open Go.Proofs.Ytpfgjagpaddcpaa.X
set_option linter.unusedVariables false
set_option linter.unusedSimpArgs false

/-- A point, moved. -/
def mvP (bx by_ : Int) (p : S23) : S23 := ⟨p.f0 + bx, p.f1 + by_⟩
def mvR (bx by_ : Int) (r : List S23) : List S23 := r.map (mvP bx by_)
def mvL (bx by_ : Int) (l : List (List S23)) : List (List S23) := l.map (mvR bx by_)
def mvE (bx by_ : Int) (e : S23 × S23) : S23 × S23 := (mvP bx by_ e.1, mvP bx by_ e.2)

theorem pth_map (bx by_ : Int) (xs : List S23) : ∀ a : S23, pth (mvP bx by_ a) (xs.map (mvP bx by_)) = (pth a xs).map (mvE bx by_) := by
  induction xs with
  | nil => intro a; rfl
  | cons c xs ih => intro a; simp [pth, ih c, mvE]
theorem edgs_map (bx by_ : Int) (r : List S23) : edgs (mvR bx by_ r) = (edgs r).map (mvE bx by_) := by
  cases r with
  | nil => rfl
  | cons a r =>
    have := pth_map bx by_ (r ++ [a]) a
    rw [List.map_append] at this
    exact this
theorem allE_map (bx by_ : Int) (l : List (List S23)) : allE (mvL bx by_ l) = (allE l).map (mvE bx by_) := by
  induction l with
  | nil => rfl
  | cons r rs ih =>
    have e1 : allE (mvL bx by_ (r :: rs)) = edgs (mvR bx by_ r) ++ allE (mvL bx by_ rs) := rfl
    have e2 : allE (r :: rs) = edgs r ++ allE rs := rfl
    rw [e1, e2, ih, edgs_map, List.map_append]

theorem tw_mv {bx by_ : Int} {p : S23} (h1 : okP p = true) (h2 : okP (mvP bx by_ p) = true) : tw (mvP bx by_ p) = ⟨(tw p).f0 + 2 * bx, (tw p).f1 + 2 * by_⟩ := by
  rw [tw_of h2, tw_of h1]
  unfold mvP
  congr 1
  · show 2 * (p.f0 + bx) = 2 * p.f0 + 2 * bx; omega
  · show 2 * (p.f1 + by_) = 2 * p.f1 + 2 * by_; omega

theorem edge_mv (bx by_ x y : Int) (e : S23 × S23) (h1 : okP e.1 = true) (h2 : okP e.2 = true) (k1 : okP (mvP bx by_ e.1) = true) (k2 : okP (mvP bx by_ e.2) = true) (h3 : rightB x y = true) (k3 : rightB (x + 2 * bx) (y + 2 * by_) = true) :
    wnE (x + 2 * bx) (y + 2 * by_) (mvE bx by_ e) = wnE x y e ∧ onE (x + 2 * bx) (y + 2 * by_) (mvE bx by_ e) = onE x y e := by
  have g1 := (okP_tw e.1).trans h1
  have g2 := (okP_tw e.2).trans h2
  have j1 := (okP_tw (mvP bx by_ e.1)).trans k1
  have j2 := (okP_tw (mvP bx by_ e.2)).trans k2
  have t1 := tw_mv h1 k1
  have t2 := tw_mv h2 k2
  have c1 := cross_rel _ _ _ _ _ _ g1 g2 h3
  have c2 := cross_rel _ _ _ _ _ _ j1 j2 k3
  have m1 : (mvE bx by_ e).1 = mvP bx by_ e.1 := rfl
  have m2 : (mvE bx by_ e).2 = mvP bx by_ e.2 := rfl
  rw [t1, t2] at c2
  simp only at c2
  rw [show (tw e.1).f0 + 2 * bx - (x + 2 * bx) = (tw e.1).f0 - x by omega, show (tw e.2).f1 + 2 * by_ - (y + 2 * by_) = (tw e.2).f1 - y by omega, show (tw e.2).f0 + 2 * bx - (x + 2 * bx) = (tw e.2).f0 - x by omega, show (tw e.1).f1 + 2 * by_ - (y + 2 * by_) = (tw e.1).f1 - y by omega, ← c1] at c2
  constructor
  · rw [wnE_rel, wnE_rel, m1, m2, t1, t2]
    simp only
    rw [c2, show (tw e.1).f0 + 2 * bx - (x + 2 * bx) = (tw e.1).f0 - x by omega, show (tw e.2).f1 + 2 * by_ - (y + 2 * by_) = (tw e.2).f1 - y by omega, show (tw e.2).f0 + 2 * bx - (x + 2 * bx) = (tw e.2).f0 - x by omega, show (tw e.1).f1 + 2 * by_ - (y + 2 * by_) = (tw e.1).f1 - y by omega]
  · unfold onE
    rw [m1, m2]
    unfold onB
    rw [h3, k3, g1, g2, j1, j2]
    simp only [Bool.true_and]
    rw [t1, t2]
    simp only
    rw [c2]
    congr 1
    unfold holdsB mn mx
    rw [decide_eq_decide]
    split <;> split <;> split <;> split <;> split <;> split <;> split <;> split <;> omega

theorem wind_mv (bx by_ x y : Int) (l : List (List S23)) (h : rightL l x y = true) (k : rightL (mvL bx by_ l) (x + 2 * bx) (y + 2 * by_) = true) :
    windN (x + 2 * bx) (y + 2 * by_) (allE (mvL bx by_ l)) = windN x y (allE l) ∧ windO (x + 2 * bx) (y + 2 * by_) (allE (mvL bx by_ l)) = windO x y (allE l) := by
  have o1 : okAll x y (allE l) = true := by rw [rightL_ok]; exact h
  have o2 : okAll (x + 2 * bx) (y + 2 * by_) (allE (mvL bx by_ l)) = true := by rw [rightL_ok]; exact k
  unfold rightL at h k
  rw [Bool.and_eq_true] at h k
  have he : ∀ e ∈ allE l, wnE (x + 2 * bx) (y + 2 * by_) (mvE bx by_ e) = wnE x y e ∧ onE (x + 2 * bx) (y + 2 * by_) (mvE bx by_ e) = onE x y e := by
    intro e hm
    obtain ⟨r, hr, her⟩ := List.mem_flatMap.1 hm
    have hall := List.all_eq_true.1 (List.all_eq_true.1 h.1 r hr)
    have hall2 := List.all_eq_true.1 (List.all_eq_true.1 k.1 (mvR bx by_ r) (List.mem_map.2 ⟨r, hr, rfl⟩))
    have hf : e.1 ∈ r := by
      have : e.1 ∈ (edgs r).map Prod.fst := List.mem_map.2 ⟨e, her, rfl⟩
      rwa [edgs_fst] at this
    have hs := edgs_snd r e her
    exact edge_mv bx by_ x y e (hall _ hf) (hall _ hs) (hall2 _ (List.mem_map.2 ⟨_, hf, rfl⟩)) (hall2 _ (List.mem_map.2 ⟨_, hs, rfl⟩)) h.2 k.2
  have ha : (allE (mvL bx by_ l)).any (onE (x + 2 * bx) (y + 2 * by_)) = (allE l).any (onE x y) := by
    rw [allE_map, List.any_map]
    rw [Bool.eq_iff_iff, List.any_eq_true, List.any_eq_true]
    constructor
    · rintro ⟨e, hm, hp⟩; exact ⟨e, hm, by rw [← (he e hm).2]; exact hp⟩
    · rintro ⟨e, hm, hp⟩; exact ⟨e, hm, by rw [← (he e hm).2] at hp; exact hp⟩
  have hw : wsum (x + 2 * bx) (y + 2 * by_) (allE (mvL bx by_ l)) = wsum x y (allE l) := by
    rw [allE_map]
    unfold wsum
    rw [List.map_map]
    congr 1
    exact List.map_congr_left fun e hm => (he e hm).1
  unfold windN windO
  rw [o1, o2, ha, hw]
  exact ⟨rfl, rfl⟩
end Go.Proofs.Ytpfgjagpaddcpaa.Own

/-! InputMoved, walked. -/
namespace Go.Proofs.Ytpfgjagpaddcpaa.Own
open Go.RowKit Go.Proofs.YtpfgjagpaddcpaaW.PrintWords Go.Proofs.YtpfgjagpaddcpaaW.PrintLast Go.Proofs.YtpfgjagpaddcpaaW.PrintMore
open Go.Proofs.Ytpfgjagpaddcpaa.X
set_option linter.unusedVariables false
set_option linter.unusedSimpArgs false

theorem info23m : (Try.prog.info? 23).map (fun i => (i.zero, i.size, i.bytes)) = some (some (.agg #[(.int .i64 0), (.int .i64 0)]), 2, 16) := by kernel_rfl

theorem rightL_mem {ls : List (List S23)} {x y : Int} (h : rightL ls x y = true) {r : List S23} (hr : r ∈ ls) {p : S23} (hp : p ∈ r) : rightB p.f0 p.f1 = true := by
  unfold rightL at h
  rw [Bool.and_eq_true] at h
  have := List.all_eq_true.1 (List.all_eq_true.1 h.1 r hr) p hp
  unfold okP at this
  rw [Bool.and_eq_true] at this
  exact this.1
theorem rightL_at {ls : List (List S23)} {x y : Int} (h : rightL ls x y = true) : rightB x y = true := by
  unfold rightL at h
  rw [Bool.and_eq_true] at h
  exact h.2
theorem mvL_take (bx by_ : Int) (l : List (List S23)) (k : Nat) (h : k < l.length) : mvL bx by_ (l.take (k + 1)) = mvL bx by_ (l.take k) ++ [mvR bx by_ (l.getD k [])] := by
  unfold mvL
  rw [List.take_add_one, List.map_append, List.getD_eq_getElem?_getD, List.getElem?_eq_getElem h]
  rfl
theorem mvR_take (bx by_ : Int) (r : List S23) (k : Nat) (h : k < r.length) : mvR bx by_ (r.take (k + 1)) = mvR bx by_ (r.take k) ++ [mvP bx by_ (r.getD k z23)] := by
  unfold mvR
  rw [List.take_add_one, List.map_append, List.getD_eq_getElem?_getD, List.getElem?_eq_getElem h]
  rfl

end Go.Proofs.Ytpfgjagpaddcpaa.Own

/-! Wind, walked: of rings of any number; its count goes round. -/
namespace Go.Proofs.Ytpfgjagpaddcpaa.Own
open Go.RowKit Go.Shelf Go.Proofs.YtpfgjagpaddcpaaW.PrintWords Go.Proofs.YtpfgjagpaddcpaaW.PrintLast Go.Proofs.YtpfgjagpaddcpaaW.PrintMore
open Go.Proofs.Ytpfgjagpaddcpaa.X
set_option linter.unusedVariables false
set_option linter.unusedSimpArgs false
attribute [local go_sem] Oper.semAt_some

/-- What Wind counts, as an int. -/
def wsumU (x y : Int) (es : List (S23 × S23)) : Int := wrap64 (wsum x y es)
def windNU (x y : Int) (es : List (S23 × S23)) : Int := if okAll x y es = true then (if es.any (onE x y) = true then 0 else wsumU x y es) else 0
theorem wsumU_up {x y : Int} {E : List (S23 × S23)} {e : S23 × S23} (h : upE x y e = true) : IntKind.i64.wrap (wsumU x y E + 1) = wsumU x y (E ++ [e]) := by
  rw [IntWalk.i64_left]
  unfold wsumU
  rw [wsum_snoc]
  unfold wnE
  rw [h, if_pos rfl]
  unfold wrap64
  omega
theorem wsumU_dn {x y : Int} {E : List (S23 × S23)} {e : S23 × S23} (h : dnE x y e = true) : IntKind.i64.wrap (wsumU x y E - 1) = wsumU x y (E ++ [e]) := by
  rw [IntWalk.i64_left]
  unfold wsumU
  have hu : upE x y e = false := by
    cases hu : upE x y e with
    | false => rfl
    | true => rw [up_not_dn hu] at h; cases h
  rw [wsum_snoc]
  unfold wnE
  rw [h, hu, if_neg (by simp), if_pos rfl]
  unfold wrap64
  omega
theorem wsumU_no {x y : Int} {E : List (S23 × S23)} {e : S23 × S23} (h : dnE x y e = false) (h2 : upE x y e = false) : wsumU x y E = wsumU x y (E ++ [e]) := by
  unfold wsumU
  rw [wsum_snoc]
  unfold wnE
  rw [h, h2]
  simp

/-- What Wind's own boxes hold when the edges es are over. -/
def WIu (w : World) (x y : Int) (g9 : Nat) (es : List (S23 × S23)) (W : World) : Prop :=
  (Boxed W w.heap.size 3 (.int .i64 y) ∧ Boxed W (w.heap.size + 1) 3 (.int .i64 (wsumU x y es)) ∧ Boxed W (w.heap.size + 1 + 1) 4 (.bool (es.any (onE x y))) ∧
    W.heap[w.heap.size + 1 + 1 + 1]? = some (.cells #[.int .i64 x, .int .i64 y] 23 (0, 0)) ∧ Boxed W g9 4 (.bool (okAll x y es))) ∧ Below w.heap.size w W ∧ w.heap.size + 1 + 1 + 1 < g9

theorem WIu_own (w : World) (x y : Int) (g9 : Nat) (E0 : List (S23 × S23)) (B : Nat) (hB : w.heap.size ≤ B) : OwnFrom B (fun pre W => WIu w x y g9 (E0 ++ pre) W) := by
  intro pre X Y row hs hg hr
  obtain ⟨⟨h1, h2, h3, h4, h5⟩, h6, h7⟩ := hs
  have hr' : ∀ r, row = some r → ∃ o : Obj, X.heap[r]? = some o ∧ o.isCells = false := fun r e => (hr r e).2
  exact ⟨⟨cells_own _ (fun _ : Unit => _) 3 () X Y row h1 hg hr', cells_own _ (fun _ : Unit => _) 3 () X Y row h2 hg hr', cells_own _ (fun _ : Unit => _) 4 () X Y row h3 hg hr', cells_own _ (fun _ : Unit => _) 23 () X Y row h4 hg hr', cells_own _ (fun _ : Unit => _) 4 () X Y row h5 hg hr'⟩,
    h6.grown hg h6.size (fun k e => Nat.le_trans hB (hr k e).1), h7⟩

theorem WIu_below {w : World} {x y : Int} {g9 : Nat} {es : List (S23 × S23)} {W W' : World} (h : WIu w x y g9 es W) (hb : Below W.heap.size W W') : WIu w x y g9 es W' := by
  obtain ⟨⟨h1, h2, h3, h4, h5⟩, h6, h7⟩ := h
  have k : ∀ {B : Nat} {o : Obj}, W.heap[B]? = some o → W'.heap[B]? = some o := fun {B o} h => (hb.block B (Array.getElem?_eq_some_iff.1 h).1).trans h
  exact ⟨⟨k h1, k h2, k h3, k h4, k h5⟩, h6.trans (hb.mono h6.size), h7⟩

set_option maxRecDepth 100000 in
set_option maxHeartbeats 8000000 in
theorem windU_any (A : Option Addr) (c : Nat) (ls : List (List S23)) (x y : Int) (w : World) (hC : Kd.C (Kd.slice 23 k23) w A ls.length ls) (hc : ls.length ≤ c) (hm : ls.length ≤ 4611686018427387904) (hm2 : ∀ r ∈ ls, r.length ≤ 4611686018427387904) :
    Calls Try.prog 38 #[.slice A ls.length c, .int .i64 x, .int .i64 y] w fun e w' => e = .returned (.tuple #[.int .i64 (windNU x y (allE ls)), .bool (windO x y (allE ls))]) ∧ Below w.heap.size w w' := by
  have hmx : Try.prog.follows .mixedOrders = true := by kernel_rfl
  have hu23 := Try.underlying23
  have HC := Aside0.mk hC
  clear hC
  refine (callsIn_wide (n := 9)).1 ?_
  refine callsIn_of_wp_marks Try.func38 rfl trivial ?_ rfl
  simp only [Try.ntmps38, List.size_toArray, List.length_cons, List.length_nil, Nat.reduceAdd, Nat.reduceSub, Array.replicate_succ, Array.replicate_zero, List.push_toArray, List.append_toArray, List.nil_append, List.cons_append]
  gi_wp2_with (refine ⟨trivial, ?_⟩; gi_at_call 20; refine (callsIn_wide.2 (right_any _ _ _)).mono ?_; rintro e w1 ⟨rfl, hb⟩)
  have HI : Aside0 (WIu w x y w1.heap.size [] (w1.alloc (.cells #[.bool (rightB x y)] 4))) := by
    have b5 := (((Boxed.new w 3 (.int .i64 y)).alloc (.cells #[.int .i64 0] 3)).alloc (.cells #[.bool false] 4)).alloc (.cells #[.int .i64 x, .int .i64 y] 23)
    have b6 := ((Boxed.new (w.alloc (.cells #[.int .i64 y] 3)) 3 (.int .i64 0)).alloc (.cells #[.bool false] 4)).alloc (.cells #[.int .i64 x, .int .i64 y] 23)
    have b7 := (Boxed.new ((w.alloc (.cells #[.int .i64 y] 3)).alloc (.cells #[.int .i64 0] 3)) 4 (.bool false)).alloc (.cells #[.int .i64 x, .int .i64 y] 23)
    have b8 := blk_new (((w.alloc (.cells #[.int .i64 y] 3)).alloc (.cells #[.int .i64 0] 3)).alloc (.cells #[.bool false] 4)) (.cells #[.int .i64 x, .int .i64 y] 23)
    simp only [World.size_alloc] at b5 b6 b7 b8
    have hB0 : Below w.heap.size w ((((w.alloc (.cells #[.int .i64 y] 3)).alloc (.cells #[.int .i64 0] 3)).alloc (.cells #[.bool false] 4)).alloc (.cells #[.int .i64 x, .int .i64 y] 23)) :=
      ((((Below.refl _ w).alloc (Nat.le_refl _) _).alloc (by simp) _).alloc (by simp; omega) _).alloc (by simp; omega) _
    have hsz : (((((w.alloc (.cells #[.int .i64 y] 3)).alloc (.cells #[.int .i64 0] 3)).alloc (.cells #[.bool false] 4)).alloc (.cells #[.int .i64 x, .int .i64 y] 23))).heap.size = w.heap.size + 1 + 1 + 1 + 1 := by simp
    have hs1 := hb.size
    have hb2 := hb.trans (((Below.refl _ w1).alloc (Nat.le_refl _) (.cells #[.bool (rightB x y)] 4)).mono hs1)
    clear hb
    generalize (((w.alloc (.cells #[.int .i64 y] 3)).alloc (.cells #[.int .i64 0] 3)).alloc (.cells #[.bool false] 4)).alloc (.cells #[.int .i64 x, .int .i64 y] 23) = WA at b5 b6 b7 b8 hB0 hsz hs1 hb2
    have k : ∀ {B : Nat} {o : Obj}, WA.heap[B]? = some o → (w1.alloc (.cells #[.bool (rightB x y)] 4)).heap[B]? = some o := fun {B o} h => (hb2.block B (Array.getElem?_eq_some_iff.1 h).1).trans h
    exact ⟨⟨⟨k b5, by rw [show wsumU x y [] = 0 by simp [wsumU, wsum, wrap64]]; exact k b6, k b7, k b8, by simpa [okAll] using Boxed.new w1 4 (.bool (rightB x y))⟩, hB0.trans (hb2.mono hB0.size), by omega⟩⟩
  obtain ⟨g9, hg9⟩ : ∃ g9, w1.heap.size = g9 := ⟨_, rfl⟩
  rw [hg9] at HI ⊢
  generalize w1.alloc (.cells #[.bool (rightB x y)] 4) = W0 at HI ⊢
  clear hb hg9
  clear w1
  refine wpIn_loop (fun a' wr => ∃ (k : Nat) (ds : List Deferred) (u11 u12 u13 u14 u15 u24 u25 u26 u27 u28 u29 u30 u31 u32 u33 u34 u35 u36 u37 u38 u39 u40 u41 u42 u43 u44 u45 u46 u47 u48 u49 u50 u51 u52 u53 u54 u55 u56 u57 u58 u59 u60 u61 u62 u63 u64 u65 u66 u67 u68 u69 u70 u71 u72 u73 u74 u75 u76 u77 u78 u79 u80 u81 u82 u83 u84 u85 : Value), (Aside0 (k ≤ ls.length) ∧ Aside0 (WIu w x y g9 (allE (ls.take k)) wr) ∧ Aside0 (Mk w ds wr)) ∧ a' = { tmps := List.toArray ((.slice A ls.length c) :: (.int .i64 x) :: (.int .i64 y) :: (undef) :: (undef) :: (.pointer (some ⟨w.heap.size, 0, none⟩)) :: (.pointer (some ⟨w.heap.size + 1, 0, none⟩)) :: (.pointer (some ⟨w.heap.size + 1 + 1, 0, none⟩)) :: (.pointer (some ⟨w.heap.size + 1 + 1 + 1, 0, none⟩)) :: (.pointer (some ⟨g9, 0, none⟩)) :: (undef) :: (u11) :: (u12) :: (u13) :: (u14) :: (u15) :: (.int .i64 x) :: (.int .i64 y) :: (.agg #[.int .i64 x, .int .i64 y]) :: (.agg #[.int .i64 x, .int .i64 y]) :: (.bool (rightB x y)) :: (.slice A ls.length c) :: (.int .i64 ls.length) :: (.int .i64 k) :: (u24) :: (u25) :: (u26) :: (u27) :: (u28) :: (u29) :: (u30) :: (u31) :: (u32) :: (u33) :: (u34) :: (u35) :: (u36) :: (u37) :: (u38) :: (u39) :: (u40) :: (u41) :: (u42) :: (u43) :: (u44) :: (u45) :: (u46) :: (u47) :: (u48) :: (u49) :: (u50) :: (u51) :: (u52) :: (u53) :: (u54) :: (u55) :: (u56) :: (u57) :: (u58) :: (u59) :: (u60) :: (u61) :: (u62) :: (u63) :: (u64) :: (u65) :: (u66) :: (u67) :: (u68) :: (u69) :: (u70) :: (u71) :: (u72) :: (u73) :: (u74) :: (u75) :: (u76) :: (u77) :: (u78) :: (u79) :: (u80) :: (u81) :: (u82) :: (u83) :: (u84) :: (u85) :: (undef) :: (undef) :: (undef) :: (undef) :: (undef) :: []), defers := ds }) (fun a' _ => ls.length - (intOf (a'.tmps.getD 23 undef)).toNat) ?_ ?_
  · refine ⟨0, [], _, _, _, _, _, _, _, _, _, _, _, _, _, _, _, _, _, _, _, _, _, _, _, _, _, _, _, _, _, _, _, _, _, _, _, _, _, _, _, _, _, _, _, _, _, _, _, _, _, _, _, _, _, _, _, _, _, _, _, _, _, _, _, _, _, _, _, ⟨⟨Nat.zero_le _⟩, by simpa [allE] using HI, ⟨⟨[], List.nodup_nil, rfl, fun _ h => by cases h⟩⟩⟩, rfl⟩
  intro a' wr hinv
  obtain ⟨k, ds, u11, u12, u13, u14, u15, u24, u25, u26, u27, u28, u29, u30, u31, u32, u33, u34, u35, u36, u37, u38, u39, u40, u41, u42, u43, u44, u45, u46, u47, u48, u49, u50, u51, u52, u53, u54, u55, u56, u57, u58, u59, u60, u61, u62, u63, u64, u65, u66, u67, u68, u69, u70, u71, u72, u73, u74, u75, u76, u77, u78, u79, u80, u81, u82, u83, u84, u85, ⟨Hk, HI2, HM⟩, rfl⟩ := hinv
  have hk := Hk.out
  clear HI
  by_cases hlt : k < ls.length
  · have hlt' : (k : Int) < (ls.length : Int) := by omega
    have d0 : decide ((k : Int) < (ls.length : Int)) = true := decide_eq_true hlt'
    obtain ⟨ad, A0, c0, e1, hx0, hc0, hC0⟩ := at_L2 HC.out (k : Int) (by omega) hlt'
    cases e1
    simp only [Int.toNat_natCast] at hx0
    replace hx0 := (HI2.out.2.1.cell (World.block_lt_of_cell? w _ hx0)).trans hx0
    have q0 : (0 : Int) ≤ (k : Int) := by omega
    obtain ⟨r, hr⟩ : ∃ r, rd_L2 ls (k : Int) = r := ⟨_, rfl⟩
    rw [hr] at hx0 hc0 hC0
    have HCr := Aside0.mk hC0
    have HR := Aside0.mk (show ls.getD k [] = r by rw [← hr]; simp [rd_L2])
    clear hC0 hr
    have HL := Aside0.mk (show r.length ≤ 4611686018427387904 by
      refine hm2 _ ?_
      rw [← HR.out, List.getD_eq_getElem?_getD, List.getElem?_eq_getElem hlt]
      exact List.getElem_mem _)
    have HT := Aside0.mk (show allE (ls.take (k + 1)) = allE (ls.take k) ++ edgs r by rw [allE_take ls k hlt, HR.out])
    gi_wp2_with (refine ⟨trivial, ?_⟩; gi_at_call 56; refine (sides_in _ _ _ _ _).mono ?_; rintro e w' ⟨rfl, rfl⟩)
    obtain ⟨E0, hE0⟩ : ∃ E0, allE (ls.take k) = E0 := ⟨_, rfl⟩
    rw [hE0] at HI2 HT
    clear hx0 d0 hE0
    have HBx := Aside0.mk (Boxed.new wr 47 (.slice A0 r.length c0))
    have HI3 := Aside0.mk (WIu_below HI2.out ((Below.refl _ wr).alloc (Nat.le_refl _) (.cells #[.slice A0 r.length c0] 47)))
    have HM3 := Aside0.mk (show Mk w ds (wr.alloc (.cells #[.slice A0 r.length c0] 47)) by
      obtain ⟨Ds, h1, h2, h3⟩ := HM.out
      exact ⟨Ds, h1, h2, fun D hD => ⟨(h3 D hD).1, (KeepsOthers.alloc wr _).same D _ (h3 D hD).2 rfl⟩⟩)
    have HG3 := Aside0.mk (show g9 < wr.heap.size from (Array.getElem?_eq_some_iff.1 HI2.out.1.2.2.2.2).1)
    obtain ⟨Bs, hBs⟩ : ∃ Bs, wr.heap.size = Bs := ⟨_, rfl⟩
    rw [hBs] at HBx HG3 ⊢
    generalize wr.alloc (.cells #[.slice A0 r.length c0] 47) = WL at HBx HI3 HM3 ⊢
    have HW3 := Aside0.mk (show w.heap.size ≤ WL.heap.size from HI3.out.2.1.size)
    have HBL := Aside0.mk (show Bs < WL.heap.size from HBx.out.lt)
    clear HM HI2 hBs
    clear wr
    refine wpIn_rangeFunc_ownH rfl (by omega) (gf := 71) (lb := #[.pointer (some ⟨Bs, 0, none⟩)]) rfl trivial (enters_of Try.func71 (by kernel_rfl) rfl)
      (sides_stops 8 (by omega) Bs w.heap.size w WL A0 c0 r HCr.out hc0 (by have := HL.out; omega) rfl HI3.out.2.1 HBx.out) KpR_t (KpR_b HW3.out HBL.out) (Below.refl _ _) (fun _ => rfl)
      (fun pre W => WIu w x y g9 (E0 ++ pre) W ∧ KeepsFrom w.heap.size WL W)
      (fun _ _ _ => False)
      (OwnFrom.and (WIu_own w x y g9 E0 _ HW3.out) (ownFrom_keepsFrom (Nat.le_refl _)))
      (fun _ _ _ _ _ hs _ _ => hs)
      ⟨by rw [List.append_nil]; exact HI3.out, KeepsFrom.refl _ _⟩
      (fun e a' W => ∃ b12 b13, Bs < b12 ∧ Bs < b13 ∧ W.heap[b12]? = some (.cells #[.int .i64 e.1.f0, .int .i64 e.1.f1] 23 (0, 0)) ∧ W.heap[b13]? = some (.cells #[.int .i64 e.2.f0, .int .i64 e.2.f1] 23 (0, 0)) ∧ a' = { tmps := List.toArray ((.slice (some ad) ls.length c) :: (.int .i64 x) :: (.int .i64 y) :: (undef) :: (undef) :: (.pointer (some ⟨w.heap.size, 0, none⟩)) :: (.pointer (some ⟨w.heap.size + 1, 0, none⟩)) :: (.pointer (some ⟨w.heap.size + 1 + 1, 0, none⟩)) :: (.pointer (some ⟨w.heap.size + 1 + 1 + 1, 0, none⟩)) :: (.pointer (some ⟨g9, 0, none⟩)) :: (undef) :: (.slice A0 r.length c0) :: (.pointer (some ⟨b12, 0, none⟩)) :: (.pointer (some ⟨b13, 0, none⟩)) :: (u14) :: (u15) :: (.int .i64 x) :: (.int .i64 y) :: (.agg #[.int .i64 x, .int .i64 y]) :: (.agg #[.int .i64 x, .int .i64 y]) :: (.bool (rightB x y)) :: (.slice (some ad) ls.length c) :: (.int .i64 ls.length) :: (.int .i64 k) :: (.bool true) :: (.pointer (some (ad.add k))) :: (.slice A0 r.length c0) :: (.slice A0 r.length c0) :: (.func (.func 71) #[] #[.pointer (some ⟨Bs, 0, none⟩)]) :: (ptV e.1.f0 e.1.f1) :: (ptV e.2.f0 e.2.f1) :: (u31) :: (u32) :: (u33) :: (u34) :: (u35) :: (u36) :: (u37) :: (u38) :: (u39) :: (u40) :: (u41) :: (u42) :: (u43) :: (u44) :: (u45) :: (u46) :: (u47) :: (u48) :: (u49) :: (u50) :: (u51) :: (u52) :: (u53) :: (u54) :: (u55) :: (u56) :: (u57) :: (u58) :: (u59) :: (u60) :: (u61) :: (u62) :: (u63) :: (u64) :: (u65) :: (u66) :: (u67) :: (u68) :: (u69) :: (u70) :: (u71) :: (u72) :: (u73) :: (u74) :: (u75) :: (u76) :: (u77) :: (u78) :: (u79) :: (u80) :: (u81) :: (u82) :: (u83) :: (u84) :: (u85) :: (undef) :: (undef) :: (undef) :: (undef) :: (undef) :: []), defers := [] })
      (fun e a' _ X Y row hs hg hr => by
        obtain ⟨b12, b13, h1, h2, h3, h4, h5⟩ := hs
        have hr' : ∀ r, row = some r → ∃ o : Obj, X.heap[r]? = some o ∧ o.isCells = false := fun r e => (hr r e).2
        exact ⟨b12, b13, h1, h2, cells_own _ (fun _ : Unit => _) 23 () X Y row h3 hg hr', cells_own _ (fun _ : Unit => _) 23 () X Y row h4 hg hr', h5⟩)
      ?assign ?body ?done ?stop
    case assign =>
      rintro lp pre e W K ⟨hi, hk⟩ hK
      have hB2 : Below W.heap.size W ((W.alloc (.cells #[.int .i64 e.1.f0, .int .i64 e.1.f1] 23)).alloc (.cells #[.int .i64 e.2.f0, .int .i64 e.2.f1] 23)) := ((Below.refl _ W).alloc (Nat.le_refl _) _).alloc (by simp) _
      have hsz := hk.size
      have hKO := keeps_below hB2
      have hws := hi.2.1.size
      have hbl := HBL.out
      have k0 := Below.heap_alloc (W.alloc (.cells #[.int .i64 e.1.f0, .int .i64 e.1.f1] 23)) (.cells #[.int .i64 e.2.f0, .int .i64 e.2.f1] 23) W.heap.size (by simp)
      have k1 := blk_new W (.cells #[.int .i64 e.1.f0, .int .i64 e.1.f1] 23)
      have k2 := blk_new (W.alloc (.cells #[.int .i64 e.1.f0, .int .i64 e.1.f1] 23)) (.cells #[.int .i64 e.2.f0, .int .i64 e.2.f1] 23)
      rw [World.size_alloc] at k2
      gi_wp2
      exact hK _ _ (hKO.from _) ⟨hB2.mono hws, hB2.block _ (by omega)⟩ ⟨WIu_below hi hB2, hk.trans (hKO.from _)⟩ ⟨W.heap.size, W.heap.size + 1, by omega, by omega, k0.trans k1, k2, rfl⟩
    case body =>
      rintro lp pre e a' W hl ⟨rc, hrc⟩ ⟨hi, hk⟩ ⟨b12, b13, h12, h13, k12, k13, rfl⟩ hlt2
      have HIW := Aside0.mk hi
      have HKW := Aside0.mk hk
      have HSZ := Aside0.mk (Nat.lt_of_lt_of_le HBL.out hk.size)
      have H12 := Aside0.mk k12
      have H13 := Aside0.mk k13
      clear hi hk hrc hl k12 k13
      obtain ⟨E, hE⟩ : ∃ E, E0 ++ pre = E := ⟨_, rfl⟩
      have HE := Aside0.mk (show E0 ++ (pre ++ [e]) = E ++ [e] by rw [← hE, List.append_assoc])
      rw [hE] at HIW
      have H1 := Aside0.mk (show upE x y e = true → IntKind.i64.wrap (wsumU x y E + 1) = wsumU x y (E ++ [e]) from wsumU_up)
      have H2 := Aside0.mk (show dnE x y e = true → IntKind.i64.wrap (wsumU x y E - 1) = wsumU x y (E ++ [e]) from wsumU_dn)
      have H3 := Aside0.mk (show dnE x y e = false → upE x y e = false → wsumU x y E = wsumU x y (E ++ [e]) from wsumU_no)
      obtain ⟨n2, hn2⟩ : ∃ n2, wsumU x y (E ++ [e]) = n2 := ⟨_, rfl⟩
      have hg9 := HG3.out
      clear hE
      gi_upto_region 9 with (fail)
      refine wind_two lp _ b12 b13 (by omega) e W H12 H13 _ _ _ _ _ _ _ _ _ _ _ _ _ _ _ _ _ _ _ _ _ _ _ _ _ _ _ _ _ _ _ _ _ _ _ _ _ _ _ _ _ _ _ _ _ _ _ _ _ _ _ _ _ _ _ _ _ _ _ _ _ _ _ _ _ _ _ _ _ _ _ _ _ _ _ _ _ _ _ _ _ _ _ _ _ _ _ _ _ _ _ ?_
      intro g14 g15 W' hB h14 h15 k14 k15
      have HS := Aside0.mk (show BS w.heap.size x y g9 Bs g14 g15 e W (wsumU x y E) (E.any (onE x y)) (okAll x y E) W' from by
        have hi := WIu_below HIW.out hB
        exact ⟨hi.1, ⟨k14, k15⟩, ⟨keeps_below hB, hB.mono HIW.out.2.1.size, hB.block _ HSZ.out⟩, HIW.out.2.2, hg9, HSZ.out, h14, h15⟩)
      obtain ⟨n, hn⟩ : ∃ n, wsumU x y E = n := ⟨_, rfl⟩
      rw [hn] at HS H1 H2 H3
      rw [hn2] at H1 H2 H3
      have Hn2 := Aside0.mk hn2
      clear hB h14 h15 k14 k15 H12 H13 hn hn2 hg9
      gi_upto_region 10 with (fail)
      gi_cut [] from 86 (fun wc => Aside0 (BS w.heap.size x y g9 Bs g14 g15 e W n (E.any (onE x y)) (okAll x y (E ++ [e])) wc))
      case first =>
        obtain ⟨⟨c1, c2, c3, c4, c5, c6⟩, ⟨c7, c8, c9, c10⟩, f1, f2, f3⟩ := BS_reads HS.out
        cases hr0 : okAll x y E with
        | false =>
          rw [hr0] at HS c6
          gi_wp2
          refine ⟨trivial, ?_⟩
          gi_wp2
          gi_meet
          case rel => rw [okAll_snoc, hr0]; exact ⟨BS_ok HS.out false⟩
        | true =>
          rw [hr0] at HS c6
          gi_wp2_with (refine ⟨trivial, ?_⟩; gi_at_call 20; refine (CallsIn.inRound lp (callsIn_wide.2 (right_any _ _ _))).mono ?_; rintro e1 w2 ⟨rfl, hb2⟩; have HS2 := Aside0.mk (BS_below HS.out hb2); obtain ⟨⟨d1, d2, d3, d4, d5, d6⟩, ⟨d7, d8, d9, d10⟩, r1, r2, r3⟩ := BS_reads HS2.out)
          gi_meet
          case rel => rw [okAll_snoc, hr0]; exact ⟨BS_ok HS2.out _⟩
      case rest =>
        clear HS
        have HS := hcut
        clear hcut
        gi_upto_region 11 with (fail)
        gi_cut [] from 86 (fun wc => Aside0 (BS w.heap.size x y g9 Bs g14 g15 e W n ((E ++ [e]).any (onE x y)) (okAll x y (E ++ [e])) wc))
        case first =>
          obtain ⟨⟨c1, c2, c3, c4, c5, c6⟩, ⟨c7, c8, c9, c10⟩, f1, f2, f3⟩ := BS_reads HS.out
          cases hr0 : E.any (onE x y) with
          | true =>
            rw [hr0] at HS c3
            gi_wp2
            refine ⟨trivial, ?_⟩
            gi_wp2
            gi_meet
            case rel => rw [onAny_snoc, hr0]; exact ⟨BS_on HS.out true⟩
          | false =>
            rw [hr0] at HS c3
            gi_wp2_with (refine ⟨trivial, ?_⟩; gi_at_call 26; refine (CallsIn.inRound lp (callsIn_wide.2 (on_any _ _ _ _ _ _ _))).mono ?_; rintro e1 w2 ⟨rfl, hb2⟩; have HS2 := Aside0.mk (BS_below HS.out hb2); obtain ⟨⟨d1, d2, d3, d4, d5, d6⟩, ⟨d7, d8, d9, d10⟩, r1, r2, r3⟩ := BS_reads HS2.out)
            gi_meet
            case rel => rw [onAny_snoc, hr0]; exact ⟨BS_on HS2.out _⟩
        case rest =>
          clear HS
          have HS := hcut
          clear hcut
          gi_upto_region 12 with (fail)
          gi_cut [63] from 86 (fun v63 wc => v63 = .bool (upE x y e) ∧ Aside0 (BS w.heap.size x y g9 Bs g14 g15 e W n ((E ++ [e]).any (onE x y)) (okAll x y (E ++ [e])) wc))
          case first =>
            obtain ⟨⟨c1, c2, c3, c4, c5, c6⟩, ⟨c7, c8, c9, c10⟩, f1, f2, f3⟩ := BS_reads HS.out
            have HU := Aside0.mk (show upE x y e = decide ((tw e.1).f1 ≤ y ∧ y < (tw e.2).f1 ∧ 0 < tuE x y e) from rfl)
            by_cases h1 : (tw e.1).f1 ≤ y
            · have i1 : decide ((tw e.1).f1 ≤ y) = true := decide_eq_true h1
              by_cases h2 : y < (tw e.2).f1
              · have i2 : decide (y < (tw e.2).f1) = true := decide_eq_true h2
                by_cases h3 : 0 < tuE x y e
                · have i3 : decide (0 < sgn (crossB (tw e.1).f0 (tw e.1).f1 (tw e.2).f0 (tw e.2).f1 x y)) = true := decide_eq_true h3
                  gi_wp2_with (refine ⟨trivial, ?_⟩; gi_at_call 23; refine (CallsIn.inRound lp (callsIn_wide.2 (turn_any _ _ _ _ _ _ _))).mono ?_; rintro e1 w2 ⟨rfl, hb2⟩; have HS2 := Aside0.mk (BS_below HS.out hb2))
                  gi_meet
                  case rel => exact ⟨congrArg Value.bool (by unfold upE; exact (decide_eq_true (by omega)).symm), HS2⟩
                · have i3 : decide (0 < sgn (crossB (tw e.1).f0 (tw e.1).f1 (tw e.2).f0 (tw e.2).f1 x y)) = false := decide_eq_false h3
                  gi_wp2_with (refine ⟨trivial, ?_⟩; gi_at_call 23; refine (CallsIn.inRound lp (callsIn_wide.2 (turn_any _ _ _ _ _ _ _))).mono ?_; rintro e1 w2 ⟨rfl, hb2⟩; have HS2 := Aside0.mk (BS_below HS.out hb2))
                  gi_meet
                  case rel => exact ⟨congrArg Value.bool (by unfold upE; exact (decide_eq_false (by omega)).symm), HS2⟩
              · have i2 : decide (y < (tw e.2).f1) = false := decide_eq_false h2
                gi_wp2
                refine ⟨trivial, ?_⟩
                gi_wp2
                gi_meet
                case rel => exact ⟨congrArg Value.bool (by unfold upE; exact (decide_eq_false (by omega)).symm), HS⟩
            · have i1 : decide ((tw e.1).f1 ≤ y) = false := decide_eq_false h1
              gi_wp2
              refine ⟨trivial, ?_⟩
              gi_wp2
              gi_meet
              case rel => exact ⟨congrArg Value.bool (by unfold upE; exact (decide_eq_false (by omega)).symm), HS⟩
          case rest =>
            clear HS
            obtain ⟨rfl, HS⟩ := hcut
            gi_upto_if 63 with (fail)
            gi_cut [63] from 86 (fun v63 wc => Aside0 (BS w.heap.size x y g9 Bs g14 g15 e W (if upE x y e = true then n2 else n) ((E ++ [e]).any (onE x y)) (okAll x y (E ++ [e])) wc))
            case first =>
              obtain ⟨⟨c1, c2, c3, c4, c5, c6⟩, ⟨c7, c8, c9, c10⟩, f1, f2, f3⟩ := BS_reads HS.out
              cases hu : upE x y e with
              | true =>
                have hw1 := H1.out hu
                gi_wp2
                gi_meet
                case rel => rw [hu]; exact ⟨BS_n HS.out n2⟩
              | false =>
                gi_wp2
                gi_meet
                case rel => rw [hu]; exact HS
            case rest =>
              clear HS
              have HS := hcut
              clear hcut
              gi_upto_region 14 with (fail)
              gi_cut [82] from 86 (fun v82 wc => v82 = .bool (dnE x y e) ∧ Aside0 (BS w.heap.size x y g9 Bs g14 g15 e W (if upE x y e = true then n2 else n) ((E ++ [e]).any (onE x y)) (okAll x y (E ++ [e])) wc))
              case first =>
                obtain ⟨⟨c1, c2, c3, c4, c5, c6⟩, ⟨c7, c8, c9, c10⟩, f1, f2, f3⟩ := BS_reads HS.out
                by_cases h1 : (tw e.2).f1 ≤ y
                · have i1 : decide ((tw e.2).f1 ≤ y) = true := decide_eq_true h1
                  by_cases h2 : y < (tw e.1).f1
                  · have i2 : decide (y < (tw e.1).f1) = true := decide_eq_true h2
                    by_cases h3 : tuE x y e < 0
                    · have i3 : decide (sgn (crossB (tw e.1).f0 (tw e.1).f1 (tw e.2).f0 (tw e.2).f1 x y) < 0) = true := decide_eq_true h3
                      gi_wp2_with (refine ⟨trivial, ?_⟩; gi_at_call 23; refine (CallsIn.inRound lp (callsIn_wide.2 (turn_any _ _ _ _ _ _ _))).mono ?_; rintro e1 w2 ⟨rfl, hb2⟩; have HS2 := Aside0.mk (BS_below HS.out hb2))
                      gi_meet
                      case rel => exact ⟨congrArg Value.bool (by unfold dnE; exact (decide_eq_true (by omega)).symm), HS2⟩
                    · have i3 : decide (sgn (crossB (tw e.1).f0 (tw e.1).f1 (tw e.2).f0 (tw e.2).f1 x y) < 0) = false := decide_eq_false h3
                      gi_wp2_with (refine ⟨trivial, ?_⟩; gi_at_call 23; refine (CallsIn.inRound lp (callsIn_wide.2 (turn_any _ _ _ _ _ _ _))).mono ?_; rintro e1 w2 ⟨rfl, hb2⟩; have HS2 := Aside0.mk (BS_below HS.out hb2))
                      gi_meet
                      case rel => exact ⟨congrArg Value.bool (by unfold dnE; exact (decide_eq_false (by omega)).symm), HS2⟩
                  · have i2 : decide (y < (tw e.1).f1) = false := decide_eq_false h2
                    gi_wp2
                    refine ⟨trivial, ?_⟩
                    gi_wp2
                    gi_meet
                    case rel => exact ⟨congrArg Value.bool (by unfold dnE; exact (decide_eq_false (by omega)).symm), HS⟩
                · have i1 : decide ((tw e.2).f1 ≤ y) = false := decide_eq_false h1
                  gi_wp2
                  refine ⟨trivial, ?_⟩
                  gi_wp2
                  gi_meet
                  case rel => exact ⟨congrArg Value.bool (by unfold dnE; exact (decide_eq_false (by omega)).symm), HS⟩
              case rest =>
                clear HS
                obtain ⟨rfl, HS⟩ := hcut
                cases hd : dnE x y e with
                | false =>
                  have HQ := Aside0.mk (show (if upE x y e = true then n2 else n) = wsumU x y (E ++ [e]) by
                    rw [Hn2.out]
                    cases hu : upE x y e with
                    | true => simp
                    | false => simpa using H3.out hd hu)
                  rw [HQ.out] at HS
                  gi_wp2
                  exact ⟨HS.out.2.2.1.1.from _, HS.out.2.2.1.2, by rw [HE.out]; exact ⟨HS.out.1, HIW.out.2.1.trans HS.out.2.2.1.2.1, HS.out.2.2.2.1⟩, HKW.out.trans (HS.out.2.2.1.1.from _)⟩
                | true =>
                  have hu : upE x y e = false := by
                    cases hu : upE x y e with
                    | false => rfl
                    | true => rw [up_not_dn hu] at hd; cases hd
                  rw [hu] at HS
                  have HS1 := Aside0.mk (show BS w.heap.size x y g9 Bs g14 g15 e W n ((E ++ [e]).any (onE x y)) (okAll x y (E ++ [e])) wc from HS.out)
                  clear HS
                  obtain ⟨⟨c1, c2, c3, c4, c5, c6⟩, ⟨c7, c8, c9, c10⟩, f1, f2, f3⟩ := BS_reads HS1.out
                  have hw2 := H2.out hd
                  gi_wp2
                  have HS := BS_n HS1.out n2
                  rw [← Hn2.out] at HS ⊢
                  exact ⟨HS.2.2.1.1.from _, HS.2.2.1.2, by rw [HE.out]; exact ⟨HS.1, HIW.out.2.1.trans HS.2.2.1.2.1, HS.2.2.2.1⟩, HKW.out.trans (HS.2.2.1.1.from _)⟩
    case done =>
      rintro D es W hD rfl ⟨hi, hk⟩ hK
      have HI4 := Aside0.mk (show WIu w x y g9 (allE (ls.take (k + 1))) W by rw [HT.out]; exact hi)
      have HM4 := Aside0.mk (show Mk w ({ target := .collected D, args := #[] } :: ds) W by
        obtain ⟨Ds, m1, m2, m3⟩ := HM3.out
        have hlt3 : ∀ D' ∈ Ds, D' < WL.heap.size := fun D' hD' => (Array.getElem?_eq_some_iff.1 (m3 D' hD').2).1
        exact ⟨D :: Ds, List.nodup_cons.2 ⟨fun h => by have := hlt3 D h; omega, m1⟩, by simp [m2], fun D' hD' => by
          rcases List.mem_cons.1 hD' with rfl | h
          · exact ⟨Nat.le_trans HW3.out hD, hK⟩
          · exact ⟨(m3 _ h).1, hk.same D' _ (m3 _ h).1 (m3 _ h).2 rfl⟩⟩)
      clear hi hk hK HM3 HI3
      gi_wp2
      refine ⟨⟨k + 1, { target := .collected D, args := #[] } :: ds, ?_⟩, ?_⟩
      · (repeat apply Exists.intro)
        exact ⟨⟨⟨by omega⟩, HI4, HM4⟩, rfl⟩
      · simp [intOf]; omega
    case stop =>
      rintro D c pre W _ _ h _
      exact h.elim
  · obtain rfl : k = ls.length := by omega
    have d0 : decide ((ls.length : Int) < (ls.length : Int)) = false := by simp
    rw [List.take_length] at HI2
    obtain ⟨⟨b5, b6, b7, b8, b9⟩, hBw, hg9⟩ := HI2.out
    have c6 := b6.cell; have c7 := b7.cell; have c9 := b9.cell; have f6 := b6.frozen; have f7 := b7.frozen
    have H6 := Aside0.mk b6
    have H7 := Aside0.mk b7
    clear b5 b6 b7 b8 b9
    have HMs : ∀ (u v : Value), Mk w ds ((wr.setCell ⟨w.heap.size + 1, 0, none⟩ u).setCell ⟨w.heap.size + 1 + 1, 0, none⟩ v) := fun u v => by
      obtain ⟨Ds, m1, m2, m3⟩ := HM.out
      exact ⟨Ds, m1, m2, fun D hD => ⟨(m3 D hD).1, ((KeepsOthers.setCell _ _ _).trans (KeepsOthers.setCell _ _ _)).same D _ (m3 D hD).2 rfl⟩⟩
    have HBs : ∀ (u v : Value), Below w.heap.size w ((wr.setCell ⟨w.heap.size + 1, 0, none⟩ u).setCell ⟨w.heap.size + 1 + 1, 0, none⟩ v) := fun u v => below_set (below_set hBw (by omega)) (by omega)
    have HM6 := Aside0.mk HMs
    have HB6 := Aside0.mk HBs
    clear HMs HBs
    have HWN := Aside0.mk (show windNU x y (allE ls) = if okAll x y (allE ls) = true then (if (allE ls).any (onE x y) = true then 0 else wsumU x y (allE ls)) else 0 from rfl)
    have HWO := Aside0.mk (show windO x y (allE ls) = (okAll x y (allE ls) && (allE ls).any (onE x y)) from rfl)
    cases hok : okAll x y (allE ls) with
    | false =>
      rw [hok] at c9 HWN HWO
      gi_wp2
      refine wind_end w _ ds _ _ _ rfl rfl ?_ ?_ (HB6.out _ _) (HM6.out _ _)
      · rw [HWN.out]; exact (H6.out.set _).other (by omega) _
      · rw [HWO.out]; exact (H7.out.other (by omega) _).set _
    | true =>
      rw [hok] at c9 HWN HWO
      cases hon : (allE ls).any (onE x y) with
      | false =>
        rw [hon] at c7 HWN HWO
        gi_wp2
        gi_region_with_o (fail)
        all_goals
          change Exit.then _ _ Exit.normal _ (World.drew _)
          gi_wp2
          refine wind_end w _ ds _ _ _ rfl rfl ?_ ?_ (below_drew1 (HB6.out _ _)) (HM6.out _ _)
          · rw [HWN.out]; exact (H6.out.set _).other (by omega) _
          · rw [HWO.out]; exact (H7.out.other (by omega) _).set _
      | true =>
        rw [hon] at c7 HWN HWO
        gi_wp2
        gi_region_with_o (fail)
        all_goals
          change Exit.then _ _ Exit.normal _ (World.drew _)
          gi_wp2
          refine wind_end w _ ds _ _ _ rfl rfl ?_ ?_ (below_drew1 (below_set (below_set (below_set hBw (by omega)) (by omega)) (by omega))) ?_
          · rw [HWN.out]; exact ((H6.out.set _).set _).other (by omega) _
          · rw [HWO.out]; exact ((H7.out.other (by omega) _).other (by omega) _).set _
          · obtain ⟨Ds, m1, m2, m3⟩ := HM.out
            exact ⟨Ds, m1, m2, fun D hD => ⟨(m3 D hD).1, (((KeepsOthers.setCell _ _ _).trans (KeepsOthers.setCell _ _ _)).trans (KeepsOthers.setCell _ _ _)).same D _ (m3 D hD).2 rfl⟩⟩
end Go.Proofs.Ytpfgjagpaddcpaa.Own

/-! right and Many, of rings of any number. -/
namespace Go.Proofs.Ytpfgjagpaddcpaa.Own
open Go.RowKit Go.Deep Go.Proofs.YtpfgjagpaddcpaaW.PrintWords Go.Proofs.YtpfgjagpaddcpaaW.PrintLast Go.Proofs.YtpfgjagpaddcpaaW.PrintMore
open Go.Proofs.Ytpfgjagpaddcpaa.X
set_option linter.unusedVariables false
set_option linter.unusedSimpArgs false

theorem right1U_ev (ls : List (List S23)) (x y N : Int) (i : Nat) (hi : i ≤ 10000000000000) (r : List S23) (hr : r.length ≤ 10000000000000) (v : Bool) (hv : Ev (fun k => cobweblaw11_right.l0 k x y ls N ((i + 1 : Nat) : Int)) v) :
    ∀ (m j : Nat), r.length - j = m → j ≤ r.length → Ev (fun k => cobweblaw11_right.l1 k x y ls N i r r.length j) ((r.drop j).all okP && v) := by
  intro m
  induction m with
  | zero =>
    intro j hm hj
    obtain rfl : j = r.length := by omega
    rw [List.drop_length]
    refine Ev.step hv fun k => ?_
    simp only [cobweblaw11_right.l1, if_neg (show ¬ (r.length : Int) < (r.length : Int) by omega)]
    rw [wrap_id (by omega)]
    rfl
  | succ m ih =>
    intro j hm hj
    have hlt : j < r.length := by omega
    have hlt' : (j : Int) < (r.length : Int) := by omega
    rw [getD_drop r z23 j hlt, List.all_cons]
    have hp : rd_T23 r (j : Int) = r.getD j z23 := by simp [rd_T23]
    generalize r.getD j z23 = p at hp ⊢
    have hs : ∀ k, cobweblaw11_right.l1 (k + 1) x y ls N i r r.length j = if rightB p.f0 p.f1 = true then (if rightB (wrap64 (2 * p.f0)) (wrap64 (2 * p.f1)) = true then cobweblaw11_right.l1 k x y ls N i r r.length (wrap64 ((j : Int) + 1)) else some false) else some false := by
      intro k
      simp only [cobweblaw11_right.l1, if_pos hlt', if_pos (show (0 : Int) ≤ (j : Int) by omega), hp, refRight_f, Option.bind_some]
    cases h1 : rightB p.f0 p.f1 with
    | false =>
      refine Ev.step (Ev.const _) fun k => ?_
      rw [hs, h1]
      simp [okP, h1]
    | true =>
      have h1' := (rightB_iff _ _).1 h1
      have w1 : wrap64 (2 * p.f0) = 2 * p.f0 := wrap_id (by omega)
      have w2 : wrap64 (2 * p.f1) = 2 * p.f1 := wrap_id (by omega)
      cases h2 : rightB (2 * p.f0) (2 * p.f1) with
      | false =>
        refine Ev.step (Ev.const _) fun k => ?_
        rw [hs, h1, w1, w2, h2]
        simp [okP, h1, h2]
      | true =>
        have ho : okP p = true := by simp [okP, h1, h2]
        rw [ho, Bool.true_and]
        refine Ev.step (ih (j + 1) (by omega) (by omega)) fun k => ?_
        rw [hs, h1, w1, w2, h2, wrap_id (by omega)]
        rfl

theorem rightU_ev (ls : List (List S23)) (x y : Int) (hl : ls.length ≤ 10000000000000) (hls : ∀ r ∈ ls, r.length ≤ 10000000000000) : ∀ (m i : Nat), ls.length - i = m → i ≤ ls.length → Ev (fun k => cobweblaw11_right.l0 k x y ls ls.length i) (rightL (ls.drop i) x y) := by
  intro m
  induction m with
  | zero =>
    intro i hm hi
    obtain rfl : i = ls.length := by omega
    rw [List.drop_length]
    refine Ev.step (Ev.const _) fun k => ?_
    simp only [cobweblaw11_right.l0, if_neg (show ¬ (ls.length : Int) < (ls.length : Int) by omega), refRight_f, Option.bind_some]
    simp [rightL]
  | succ m ih =>
    intro i hm hi
    have hlt : i < ls.length := by omega
    have hmem : ls.getD i [] ∈ ls := by
      rw [List.getD_eq_getElem?_getD, List.getElem?_eq_getElem hlt]
      exact List.getElem_mem _
    have hrl := hls _ hmem
    have he : rightL (ls.drop i) x y = ((ls.getD i []).all okP && rightL (ls.drop (i + 1)) x y) := by
      rw [getD_drop ls [] i hlt]
      simp [rightL, Bool.and_assoc]
    rw [he]
    have hr' : rd_L2 ls (i : Int) = ls.getD i [] := by simp [rd_L2]
    generalize ls.getD i [] = r at hr' hrl ⊢
    have h1 := right1U_ev ls x y ls.length i (by omega) r hrl _ (ih (i + 1) (by omega) (by omega)) r.length 0 (by omega) (by omega)
    rw [List.drop_zero] at h1
    refine Ev.step h1 fun k => ?_
    simp only [cobweblaw11_right.l0, if_pos (show (i : Int) < (ls.length : Int) by omega), if_pos (show (0 : Int) ≤ (i : Int) by omega), hr']
    rfl

theorem rightU_f (ls : List (List S23)) (x y : Int) (hl : ls.length ≤ 10000000000000) (hls : ∀ r ∈ ls, r.length ≤ 10000000000000) : Ev (fun k => cobweblaw11_right.f k ls x y) (rightL ls x y) := by
  have := rightU_ev ls x y hl hls ls.length 0 (by omega) (by omega)
  exact this.congr fun k => rfl

theorem run_append_none (w : World) (A B : Option Addr) (cb : Nat) (la lb : List (List S23)) (hA : Kd.C (Kd.slice 23 k23) w A la.length la) (hB : Kd.C (Kd.slice 23 k23) w B lb.length lb) (h0 : lb.length = 0) (ty : TypeId) :
    ∃ R c' w', (Builtin.append_ #[35, 35] ty #[.slice A la.length la.length, .slice B lb.length cb]).run Try.prog w = .ok (.slice R (la.length + lb.length) c') w' ∧ la.length + lb.length ≤ c' ∧ Kd.C (Kd.slice 23 k23) w' R (la.length + lb.length) (la ++ lb) ∧ Below w.heap.size w w' := by
  obtain ⟨i0, hi, hz0, hz1, hz2⟩ := info_parts info47'
  obtain rfl : lb = [] := List.length_eq_zero_iff.1 h0
  have hs : Src Try.prog i0.size 35 (.slice B 0 cb) 0 [] w := by
    cases B with
    | none => exact Src.ofNil w Try.underlying35 cb
    | some ad => exact Src.ofSlice w Try.underlying35 ad 0 cb [] (by simp) (fun j u hu => by simp at hu) (fun u hu => by cases hu)
  refine ⟨A, la.length, w, run_append_nothing w 35 35 ty 47 i0 Try.underlying35 hi A la.length la.length (Nat.le_refl _) _ hs, by simp, ?_, Below.refl _ _⟩
  simpa using hA

theorem step_append_none {ops : Array Oper} {o : Oper} {a : Act} {w : World} {K : Act → World → Prop} {Q : Exit → Act → World → Prop} {E : Prop} (hg : o.guard = none) (s x : Operand)
    (hop : o.op = Op.call { callee := Callee.builtin Builtin.append, args := #[s, x], argTypes := #[35, 35] })
    (A B : Option Addr) (cb : Nat) (la lb : List (List S23)) (hs : a.eval s = .slice A la.length la.length) (hx : a.eval x = .slice B lb.length cb) (hA : Kd.C (Kd.slice 23 k23) w A la.length la) (hB : Kd.C (Kd.slice 23 k23) w B lb.length lb) (hl : lb.length = 0)
    (hK : ∀ R c' w', la.length + lb.length ≤ c' → Kd.C (Kd.slice 23 k23) w' R (la.length + lb.length) (la ++ lb) → Below w.heap.size w w' → K (a.put o.dst (.slice R (la.length + lb.length) c')) w') :
    if Region.wanted o (yielded ops a.tmps) = true then Oper.wp Try.prog o a w K Q else E := by
  have hw : Region.wanted o (yielded ops a.tmps) = true := by simp [Region.wanted, hg]
  rw [if_pos hw]
  obtain ⟨R, c', w', hrun, r1, r2, r3⟩ := run_append_none w A B cb la lb hA hB hl o.type
  unfold Oper.wp
  simp [execOp, hop, resolve, invoke, builtin, hs, hx, hrun, Result.andThen]
  exact hK R c' w' r1 r2 r3

set_option maxRecDepth 100000 in
set_option maxHeartbeats 8000000 in
theorem manyU_any (A B : Option Addr) (ca cb : Nat) (la lb : List (List S23)) (o f r c : Int) (w : World) (hA : Kd.C (Kd.slice 23 k23) w A la.length la) (hca : la.length ≤ ca) (hB : Kd.C (Kd.slice 23 k23) w B lb.length lb) (hcb : lb.length ≤ cb)
    (h0 : lb.length = 0) (hl : la.length + lb.length ≤ 10000000000000) :
    Calls Try.prog 36 #[.agg #[.slice A la.length ca, .slice B lb.length cb, .int .i64 o, .int .i64 f, .int .i64 r, .int .i64 c]] w fun e w' => e = .returned (.int .i64 (wrap64 ((la.length + lb.length + sumL la + sumL lb : Nat) : Int))) ∧ Below w.heap.size w w' := by
  have hu35 := Try.underlying35
  have hu37 := Try.underlying37
  have HA := Aside0.mk hA
  have HB := Aside0.mk hB
  have HCA := Aside0.mk hca
  have HL := Aside0.mk hl
  have HLL := Aside0.mk h0
  clear h0
  have hw0 : IntKind.i64.wrap ((la.length : Int) + (lb.length : Int)) = (la.length : Int) + (lb.length : Int) := IntWalk.i64_in _ (by omega)
  clear hA hB hcb hl
  go_enter Try.func36, Try.ntmps36
  go_wp2_with fail
  have hk := blk_new w (.cells #[.slice A la.length ca, .slice B lb.length cb, .int .i64 o, .int .i64 f, .int .i64 r, .int .i64 c] 37)
  have HW0 := Aside0.mk (below_alloc (Below.refl w.heap.size w) (.cells #[.slice A la.length ca, .slice B lb.length cb, .int .i64 o, .int .i64 f, .int .i64 r, .int .i64 c] 37))
  generalize w.alloc (.cells #[.slice A la.length ca, .slice B lb.length cb, .int .i64 o, .int .i64 f, .int .i64 r, .int .i64 c] 37) = W0 at hk HW0 ⊢
  obtain ⟨g, hg⟩ : ∃ g, w.heap.size = g := ⟨_, rfl⟩
  rw [hg] at hk ⊢
  have K0 := Aside0.mk hk
  have HG := Aside0.mk hg
  clear hk hg
  have c0 := cell0 0 K0.out rfl; have c1 := cell0 1 K0.out rfl; have c2 := cell0 2 K0.out rfl; have c3 := cell0 3 K0.out rfl; have c4 := cell0 4 K0.out rfl; have c5 := cell0 5 K0.out rfl
  go_region_held3 (fun w' => Below W0.heap.size W0 w' ∧ w'.cell? ⟨g, 0, none⟩ = some (.slice A la.length ca) ∧ w'.cell? ⟨g, 1, none⟩ = some (.slice B lb.length cb) ∧ w'.cell? ⟨g, 2, none⟩ = some (.int .i64 o) ∧ w'.cell? ⟨g, 3, none⟩ = some (.int .i64 f) ∧ w'.cell? ⟨g, 4, none⟩ = some (.int .i64 r) ∧ w'.cell? ⟨g, 5, none⟩ = some (.int .i64 c))
    (first | (exact ⟨below_drew1 (Below.refl _ _), (World.cell?_drew _ _).trans c0, (World.cell?_drew _ _).trans c1, (World.cell?_drew _ _).trans c2, (World.cell?_drew _ _).trans c3, (World.cell?_drew _ _).trans c4, (World.cell?_drew _ _).trans c5⟩) | (have hH := ‹Below _ _ _ ∧ _›; exact ⟨below_step hH.1 ‹Below _ _ _›, cell_on ‹Below _ _ _› hH.2.1, cell_on ‹Below _ _ _› hH.2.2.1, cell_on ‹Below _ _ _› hH.2.2.2.1, cell_on ‹Below _ _ _› hH.2.2.2.2.1, cell_on ‹Below _ _ _› hH.2.2.2.2.2.1, cell_on ‹Below _ _ _› hH.2.2.2.2.2.2⟩) | (have hH := ‹Below _ _ _ ∧ _›; exact ⟨pw_below_drewN hH.1 _, hH.2.1, hH.2.2.1, hH.2.2.2.1, hH.2.2.2.2.1, hH.2.2.2.2.2.1, hH.2.2.2.2.2.2⟩))
    ((first
    | (refine step_append_none rfl (.tmp 21) (.tmp 23) rfl A B cb la lb rfl rfl (Kd.C_below HA.out (below_step HW0.out (‹Below W0.heap.size W0 _ ∧ _›).1)) (Kd.C_below HB.out (below_step HW0.out (‹Below W0.heap.size W0 _ ∧ _›).1)) HLL.out ?_; intro R c' w4 hc4 hC4 hb; have HC4 := Aside0.mk hC4; clear hC4)))
  have HW4 := Aside0.mk (below_step HW0.out (‹Below W0.heap.size W0 _ ∧ _›).1)
  obtain ⟨ll, hll⟩ : ∃ ll, la ++ lb = ll := ⟨_, rfl⟩
  have HLN := Aside0.mk (show ll.length = la.length + lb.length by rw [← hll, List.length_append])
  have HS := Aside0.mk (show sumL ll = sumL la + sumL lb by rw [← hll, sumL_app])
  rw [hll] at HC4
  obtain ⟨N, hN⟩ : ∃ N : Int, (la.length : Int) + (lb.length : Int) = N := ⟨_, rfl⟩
  have HN := Aside0.mk (show N = ll.length ∧ N ≤ 10000000000000 by have h1 := HL.out; have h2 := HLN.out; omega)
  rw [hN]
  obtain ⟨nn, hnn⟩ : ∃ nn : Nat, la.length + lb.length = nn := ⟨_, rfl⟩
  have HNN := Aside0.mk (show (nn : Int) = N by omega)
  rw [hnn] at HC4 ⊢
  clear c0 c1 c2 c3 c4 c5 hll hnn hN hw0 hca
  go_wp2_with fail
  go_loop [3, 26] (fun n i => ∃ k : Nat, Aside0 (k ≤ nn) ∧ i = .int .i64 k ∧ ∃ m : Int, n = .int .i64 m ∧ Aside0 (m = wrap64 (N + sumL (ll.take k)))) (fun _ i => nn - (intOf i).toNat)
  case atStart => exact ⟨0, ⟨Nat.zero_le _⟩, rfl, N, rfl, ⟨by simp [sumL]; have := HN.out; unfold wrap64; omega⟩⟩
  case round =>
    obtain ⟨k, Hk, rfl, m, rfl, Hm⟩ := hrel
    have hk := Hk.out
    by_cases hlt : k < nn
    · have hlt' : (k : Int) < N := by have := HNN.out; omega
      have d0 : decide ((k : Int) < N) = true := decide_eq_true hlt'
      obtain ⟨ad, A0, c0, e1, hx0, hc0, hC0⟩ := at_L2 HC4.out (k : Int) (by omega) (by omega)
      cases e1
      simp only [Int.toNat_natCast] at hx0
      have q0 : (0 : Int) ≤ (k : Int) := by omega
      have q1 : (k : Int) < (nn : Int) := by omega
      have hlen : k < ll.length := by have := HN.out.1; have := HNN.out; omega
      have HT := Aside0.mk (show sumL (ll.take (k + 1)) = sumL (ll.take k) + (rd_L2 ll (k : Int)).length from sumL_drop ll k hlen)
      have HT2 := Aside0.mk (sumL_take_le ll (k + 1))
      generalize rd_L2 ll (k : Int) = r0 at hx0 hc0 HT
      have hkb : (k : Int) ≤ 10000000000000 := by have h4 := HN.out; omega
      obtain ⟨m1, hwm⟩ : ∃ m1, IntKind.i64.wrap (m + (r0.length : Int)) = m1 := ⟨_, rfl⟩
      have HM1 := Aside0.mk (show m1 = wrap64 (N + sumL (ll.take (k + 1))) by
        rw [← hwm, IntWalk.i64_left, HT.out, Hm.out]; unfold wrap64; omega)
      clear hC0 hlen hlt
      go_wp2_with fail
      go_round
      case rel => exact ⟨k + 1, ⟨by omega⟩, by go_num, _, rfl, HM1⟩
      case measure => simp [intOf]; omega
    · have hge : ¬ (k : Int) < N := by have := HNN.out; omega
      have d0 : decide ((k : Int) < N) = false := decide_eq_false hge
      have HE := Aside0.mk (show m = wrap64 ((la.length + lb.length + sumL la + sumL lb : Nat) : Int) by
        have h1 := Hm.out
        rw [List.take_of_length_le (by have := HN.out.1; have := HNN.out; omega)] at h1
        have h2 := HS.out; have h3 := HN.out.1; have h4 := HLN.out
        rw [h1]
        congr 1
        omega)
      go_wp2_with fail
      go_ret
      exact ⟨by rw [HE.out]; rfl, HW4.out⟩

theorem many1U_any (A : Option Addr) (c : Nat) (l : List (List S23)) (w : World) (hA : Kd.C (Kd.slice 23 k23) w A l.length l) (hc : l.length ≤ c) (hl : l.length ≤ 10000000000000) :
    Calls Try.prog 36 #[.agg #[.slice A l.length c, .slice none 0 0, .int .i64 0, .int .i64 0, .int .i64 0, .int .i64 0]] w fun e w' => e = .returned (.int .i64 (wrap64 ((l.length + sumL l : Nat) : Int))) ∧ Below w.heap.size w w' :=
  (manyU_any A none c 0 l [] 0 0 0 0 w hA hc (C_none w) (Nat.le_refl _) rfl (by simpa using hl)).mono fun e w' ⟨h1, h2⟩ => ⟨by rw [h1]; simp [sumL], h2⟩
theorem right1U_any (A : Option Addr) (c : Nat) (l : List (List S23)) (x y : Int) (w : World) (hA : Kd.C (Kd.slice 23 k23) w A l.length l) (hc : l.length ≤ c) (hl : l.length ≤ 10000000000000) (hls : ∀ r ∈ l, r.length ≤ 10000000000000) :
    Calls Try.prog 37 #[.slice A l.length c, .int .i64 x, .int .i64 y] w fun e w' => e = .returned (.bool (rightL l x y)) ∧ Below w.heap.size w w' := by
  obtain ⟨k, hk⟩ := (rightU_f l x y hl hls).get
  exact cobweblaw11_right.calls k A c l x y _ w hA hc hk
end Go.Proofs.Ytpfgjagpaddcpaa.Own

/-! What the bound on one slice's bytes gives: how many rings; how many points in each. -/
namespace Go.Proofs.Ytpfgjagpaddcpaa.Own
open Go.Proofs.Ytpfgjagpaddcpaa.X
set_option linter.unusedVariables false

theorem weights_all_mem {H : Type} {P : Program} {e : TypeId} : ∀ (el : List (DataW H)) (i : Nat) (d : DataW H), el[i]? = some d → ∀ n ∈ d.weights P e, n ∈ DataW.weightsAll P e el
  | [], _, _, h, _, _ => by simp at h
  | x :: r, 0, d, h, n, hn => by
    obtain rfl : x = d := by simpa using h
    simp only [DataW.weightsAll, List.mem_append]
    exact Or.inl hn
  | x :: r, i + 1, d, h, n, hn => by
    simp only [DataW.weightsAll, List.mem_append]
    exact Or.inr (weights_all_mem r i d (by simpa using h) n hn)

theorem bytes47 : Try.prog.bytesOf 47 = 24 := by kernel_rfl
theorem bytes23 : Try.prog.bytesOf 23 = 16 := by kernel_rfl

theorem rows_sized {H : Type} {ts : List TypeId} {ds : List (DataW H)} (h : (DataW.weightsEach Try.prog ts ds).all (· ≤ reachBytes) = true) {j : Nat} {d : DataW H} (ht : ts[j]? = some 35) (hd : ds[j]? = some d) {l : List (List S23)} (hr : RowsData d l) :
    l.length ≤ 5864062014805 ∧ ∀ r ∈ l, r.length ≤ 8796093022208 := by
  have hw : ∀ n ∈ d.weights Try.prog 35, n ≤ reachBytes := fun n hn => by simpa using List.all_eq_true.1 h _ (DataW.weights_mem_each ht hd n hn)
  rcases hr with rfl | ⟨el, es, rfl, h1, h2⟩
  · exact ⟨Nat.zero_le _, fun r hr => by cases hr⟩
  · have hu35 := Try.underlying35
    have hu47 := Try.underlying47
    have e1 : DataW.weights Try.prog 35 (.slice el es) = (el.length + es.length) * Try.prog.bytesOf 47 :: (DataW.weightsAll Try.prog 47 el ++ DataW.weightsAll Try.prog 47 es) := by
      simp only [DataW.weights, hu35]
    rw [e1, bytes47] at hw
    constructor
    · have := hw _ (List.mem_cons_self ..)
      unfold reachBytes at this
      omega
    · intro r hr
      obtain ⟨i, hi⟩ := List.getElem?_of_mem hr
      have hlt : i < l.length := (List.getElem?_eq_some_iff.1 hi).1
      have hd' : el[i]? = some (el[i]'(by omega)) := List.getElem?_eq_getElem (by omega)
      rcases h2 i _ r hd' hi with rfl | ⟨el2, es2, e2, h3⟩
      · exact Nat.zero_le _
      · rw [e2] at hd'
        have := hw _ (List.mem_cons_of_mem _ (List.mem_append_left _ (weights_all_mem el i _ hd' ((el2.length + es2.length) * Try.prog.bytesOf 23) (by simp [DataW.weights, hu47]))))
        rw [bytes23] at this
        unfold reachBytes at this
        omega
end Go.Proofs.Ytpfgjagpaddcpaa.Own

/-! InputMoved, walked: of rings of any number. -/
namespace Go.Proofs.Ytpfgjagpaddcpaa.Own
open Go.RowKit Go.Proofs.YtpfgjagpaddcpaaW.PrintWords Go.Proofs.YtpfgjagpaddcpaaW.PrintLast Go.Proofs.YtpfgjagpaddcpaaW.PrintMore
open Go.Proofs.Ytpfgjagpaddcpaa.X
set_option linter.unusedVariables false
set_option linter.unusedSimpArgs false

theorem windU_mv (bx by_ x y : Int) (l : List (List S23)) (h : rightL l x y = true) (k : rightL (mvL bx by_ l) (x + 2 * bx) (y + 2 * by_) = true) :
    windNU (x + 2 * bx) (y + 2 * by_) (allE (mvL bx by_ l)) = windNU x y (allE l) ∧ windO (x + 2 * bx) (y + 2 * by_) (allE (mvL bx by_ l)) = windO x y (allE l) := by
  have o1 : okAll x y (allE l) = true := by rw [rightL_ok]; exact h
  have o2 : okAll (x + 2 * bx) (y + 2 * by_) (allE (mvL bx by_ l)) = true := by rw [rightL_ok]; exact k
  obtain ⟨h1, h2⟩ := wind_mv bx by_ x y l h k
  refine ⟨?_, h2⟩
  unfold windO at h2
  unfold windN at h1
  rw [o1, o2, Bool.true_and, Bool.true_and] at h2
  rw [o1, o2, if_pos rfl, if_pos rfl, h2] at h1
  unfold windNU wsumU
  rw [o1, o2, if_pos rfl, if_pos rfl, h2]
  cases ha : (allE l).any (onE x y) with
  | true => rfl
  | false =>
    rw [ha, if_neg (by simp), if_neg (by simp)] at h1
    rw [if_neg (by simp), if_neg (by simp), h1]

set_option maxHeartbeats 8000000 in
set_option maxRecDepth 100000 in
theorem movedU_out
    (w : World) (A : Option Addr) (c : Nat) (l : List (List S23)) (hc : l.length ≤ c) (hA : Kd.C (Kd.slice 23 k23) w A l.length l) (x y bx bY : Int) (hl : l.length ≤ 5864062014805) (hls : ∀ r ∈ l, r.length ≤ 8796093022208) (h : 200 < wrap64 ((l.length + sumL l : Nat) : Int) ∨ (wrap64 ((l.length + sumL l : Nat) : Int) ≤ 200 ∧ (134217728 < bx ∨ (bx ≤ 134217728 ∧ (bx < -134217728 ∨ (-134217728 ≤ bx ∧ (134217728 < bY ∨ (bY ≤ 134217728 ∧ bY < -134217728)))))))) :
    Calls Try.prog 7 #[.slice A l.length c, .agg #[.int .i64 x, .int .i64 y], .agg #[.int .i64 bx, .int .i64 bY]] w fun e w' => e = .returned (.bool true) ∧ Below w.heap.size w w' := by
  have hu43 := Try.underlying43
  have hu23 := Try.underlying23
  have HA := Aside0.mk hA
  have HC := Aside0.mk hc
  have HL := Aside0.mk hl
  have HLS := Aside0.mk hls
  obtain ⟨N, hN⟩ : ∃ N : Int, wrap64 ((l.length + sumL l : Nat) : Int) = N := ⟨_, rfl⟩
  have HM := Aside0.mk (show ∀ w', Below w.heap.size w w' → Calls Try.prog 36 #[.agg #[.slice A l.length c, .slice none 0 0, .int .i64 0, .int .i64 0, .int .i64 0, .int .i64 0]] w' fun e w'' => e = .returned (.int .i64 N) ∧ Below w'.heap.size w' w'' from
    fun w' hb => hN ▸ many1U_any A c l w' (Kd.C_below hA hb) hc (by omega))
  have HN := Aside0.mk hN
  clear hA hc hl hls
  rw [hN] at h
  rcases h with h | ⟨h1, h | ⟨h2, h | ⟨h3, h | ⟨h4, h⟩⟩⟩⟩
  · have d1 : decide (200 < N) = true := decide_eq_true (by omega)
    clear h hN
    go_enter Try.func7, Try.ntmps7
    have hk4 := blk_new w (.cells #[.int .i64 x, .int .i64 y] 43)
    have hk5 := blk_new (w.alloc (.cells #[.int .i64 x, .int .i64 y] 43)) (.cells #[.int .i64 bx, .int .i64 bY] 23)
    have hk4' := blk_alloc hk4 (.cells #[.int .i64 bx, .int .i64 bY] 23)
    have HW0 := Aside0.mk (below_alloc (below_alloc (Below.refl w.heap.size w) (.cells #[.int .i64 x, .int .i64 y] 43)) (.cells #[.int .i64 bx, .int .i64 bY] 23))
    rw [World.size_alloc] at hk5
    have K4 := Aside0.mk hk4'
    have K5 := Aside0.mk hk5
    clear hk4 hk5 hk4'
    go_wp2_with (go_at_call 36; (with_reducible refine (HM.out _ HW0.out).mono ?_); rintro e w1 ⟨rfl, hb⟩; have HB := Aside0.mk (below_step HW0.out hb); have k4 := blk_below K4.out hb; have k5 := blk_below K5.out hb; have c0 := cell0 0 k4 rfl; have c1 := cell0 1 k4 rfl; have c2 := cell0 0 k5 rfl; have c3 := cell0 1 k5 rfl)
    refine (alive11_any _).mono ?_
    rintro e w2 ⟨rfl, hb2⟩
    go_wp2_with fail
    go_ret
    exact ⟨rfl, below_step HB.out hb2⟩
  · have d1 : decide (200 < N) = false := decide_eq_false (by omega)
    have d2 : decide (134217728 < bx) = true := decide_eq_true (by omega)
    clear h hN h1
    go_enter Try.func7, Try.ntmps7
    have hk4 := blk_new w (.cells #[.int .i64 x, .int .i64 y] 43)
    have hk5 := blk_new (w.alloc (.cells #[.int .i64 x, .int .i64 y] 43)) (.cells #[.int .i64 bx, .int .i64 bY] 23)
    have hk4' := blk_alloc hk4 (.cells #[.int .i64 bx, .int .i64 bY] 23)
    have HW0 := Aside0.mk (below_alloc (below_alloc (Below.refl w.heap.size w) (.cells #[.int .i64 x, .int .i64 y] 43)) (.cells #[.int .i64 bx, .int .i64 bY] 23))
    rw [World.size_alloc] at hk5
    have K4 := Aside0.mk hk4'
    have K5 := Aside0.mk hk5
    clear hk4 hk5 hk4'
    go_wp2_with (go_at_call 36; (with_reducible refine (HM.out _ HW0.out).mono ?_); rintro e w1 ⟨rfl, hb⟩; have HB := Aside0.mk (below_step HW0.out hb); have k4 := blk_below K4.out hb; have k5 := blk_below K5.out hb; have c0 := cell0 0 k4 rfl; have c1 := cell0 1 k4 rfl; have c2 := cell0 0 k5 rfl; have c3 := cell0 1 k5 rfl)
    refine (alive11_any _).mono ?_
    rintro e w2 ⟨rfl, hb2⟩
    go_wp2_with fail
    go_ret
    exact ⟨rfl, below_step HB.out hb2⟩
  · have d1 : decide (200 < N) = false := decide_eq_false (by omega)
    have d2 : decide (134217728 < bx) = false := decide_eq_false (by omega)
    have d3 : decide (bx < -134217728) = true := decide_eq_true (by omega)
    clear h hN h1 h2
    go_enter Try.func7, Try.ntmps7
    have hk4 := blk_new w (.cells #[.int .i64 x, .int .i64 y] 43)
    have hk5 := blk_new (w.alloc (.cells #[.int .i64 x, .int .i64 y] 43)) (.cells #[.int .i64 bx, .int .i64 bY] 23)
    have hk4' := blk_alloc hk4 (.cells #[.int .i64 bx, .int .i64 bY] 23)
    have HW0 := Aside0.mk (below_alloc (below_alloc (Below.refl w.heap.size w) (.cells #[.int .i64 x, .int .i64 y] 43)) (.cells #[.int .i64 bx, .int .i64 bY] 23))
    rw [World.size_alloc] at hk5
    have K4 := Aside0.mk hk4'
    have K5 := Aside0.mk hk5
    clear hk4 hk5 hk4'
    go_wp2_with (go_at_call 36; (with_reducible refine (HM.out _ HW0.out).mono ?_); rintro e w1 ⟨rfl, hb⟩; have HB := Aside0.mk (below_step HW0.out hb); have k4 := blk_below K4.out hb; have k5 := blk_below K5.out hb; have c0 := cell0 0 k4 rfl; have c1 := cell0 1 k4 rfl; have c2 := cell0 0 k5 rfl; have c3 := cell0 1 k5 rfl)
    refine (alive11_any _).mono ?_
    rintro e w2 ⟨rfl, hb2⟩
    go_wp2_with fail
    go_ret
    exact ⟨rfl, below_step HB.out hb2⟩
  · have d1 : decide (200 < N) = false := decide_eq_false (by omega)
    have d2 : decide (134217728 < bx) = false := decide_eq_false (by omega)
    have d3 : decide (bx < -134217728) = false := decide_eq_false (by omega)
    have d4 : decide (134217728 < bY) = true := decide_eq_true (by omega)
    clear h hN h1 h2 h3
    go_enter Try.func7, Try.ntmps7
    have hk4 := blk_new w (.cells #[.int .i64 x, .int .i64 y] 43)
    have hk5 := blk_new (w.alloc (.cells #[.int .i64 x, .int .i64 y] 43)) (.cells #[.int .i64 bx, .int .i64 bY] 23)
    have hk4' := blk_alloc hk4 (.cells #[.int .i64 bx, .int .i64 bY] 23)
    have HW0 := Aside0.mk (below_alloc (below_alloc (Below.refl w.heap.size w) (.cells #[.int .i64 x, .int .i64 y] 43)) (.cells #[.int .i64 bx, .int .i64 bY] 23))
    rw [World.size_alloc] at hk5
    have K4 := Aside0.mk hk4'
    have K5 := Aside0.mk hk5
    clear hk4 hk5 hk4'
    go_wp2_with (go_at_call 36; (with_reducible refine (HM.out _ HW0.out).mono ?_); rintro e w1 ⟨rfl, hb⟩; have HB := Aside0.mk (below_step HW0.out hb); have k4 := blk_below K4.out hb; have k5 := blk_below K5.out hb; have c0 := cell0 0 k4 rfl; have c1 := cell0 1 k4 rfl; have c2 := cell0 0 k5 rfl; have c3 := cell0 1 k5 rfl)
    refine (alive11_any _).mono ?_
    rintro e w2 ⟨rfl, hb2⟩
    go_wp2_with fail
    go_ret
    exact ⟨rfl, below_step HB.out hb2⟩
  · have d1 : decide (200 < N) = false := decide_eq_false (by omega)
    have d2 : decide (134217728 < bx) = false := decide_eq_false (by omega)
    have d3 : decide (bx < -134217728) = false := decide_eq_false (by omega)
    have d4 : decide (134217728 < bY) = false := decide_eq_false (by omega)
    have d5 : decide (bY < -134217728) = true := decide_eq_true (by omega)
    clear h hN h1 h2 h3 h4
    go_enter Try.func7, Try.ntmps7
    have hk4 := blk_new w (.cells #[.int .i64 x, .int .i64 y] 43)
    have hk5 := blk_new (w.alloc (.cells #[.int .i64 x, .int .i64 y] 43)) (.cells #[.int .i64 bx, .int .i64 bY] 23)
    have hk4' := blk_alloc hk4 (.cells #[.int .i64 bx, .int .i64 bY] 23)
    have HW0 := Aside0.mk (below_alloc (below_alloc (Below.refl w.heap.size w) (.cells #[.int .i64 x, .int .i64 y] 43)) (.cells #[.int .i64 bx, .int .i64 bY] 23))
    rw [World.size_alloc] at hk5
    have K4 := Aside0.mk hk4'
    have K5 := Aside0.mk hk5
    clear hk4 hk5 hk4'
    go_wp2_with (go_at_call 36; (with_reducible refine (HM.out _ HW0.out).mono ?_); rintro e w1 ⟨rfl, hb⟩; have HB := Aside0.mk (below_step HW0.out hb); have k4 := blk_below K4.out hb; have k5 := blk_below K5.out hb; have c0 := cell0 0 k4 rfl; have c1 := cell0 1 k4 rfl; have c2 := cell0 0 k5 rfl; have c3 := cell0 1 k5 rfl)
    refine (alive11_any _).mono ?_
    rintro e w2 ⟨rfl, hb2⟩
    go_wp2_with fail
    go_ret
    exact ⟨rfl, below_step HB.out hb2⟩

set_option maxHeartbeats 16000000 in
set_option maxRecDepth 100000 in
theorem movedU_in
    (w : World) (A : Option Addr) (c : Nat) (l : List (List S23)) (hc : l.length ≤ c) (hA : Kd.C (Kd.slice 23 k23) w A l.length l) (x y bx bY : Int) (hl : l.length ≤ 5864062014805) (hls : ∀ r ∈ l, r.length ≤ 8796093022208) (h1 : wrap64 ((l.length + sumL l : Nat) : Int) ≤ 200) (b1 : -134217728 ≤ bx) (b2 : bx ≤ 134217728) (b3 : -134217728 ≤ bY) (b4 : bY ≤ 134217728) :
    Calls Try.prog 7 #[.slice A l.length c, .agg #[.int .i64 x, .int .i64 y], .agg #[.int .i64 bx, .int .i64 bY]] w fun e w' => e = .returned (.bool true) ∧ Below w.heap.size w w' := by
  have hu43 := Try.underlying43
  have hu23 := Try.underlying23
  have HA := Aside0.mk hA
  have HC := Aside0.mk hc
  have HL := Aside0.mk hl
  have HLS := Aside0.mk hls
  obtain ⟨N, hN⟩ : ∃ N : Int, wrap64 ((l.length + sumL l : Nat) : Int) = N := ⟨_, rfl⟩
  have HM := Aside0.mk (show ∀ w', Below w.heap.size w w' → Calls Try.prog 36 #[.agg #[.slice A l.length c, .slice none 0 0, .int .i64 0, .int .i64 0, .int .i64 0, .int .i64 0]] w' fun e w'' => e = .returned (.int .i64 N) ∧ Below w'.heap.size w' w'' from
    fun w' hb => hN ▸ many1U_any A c l w' (Kd.C_below hA hb) hc (by omega))
  have HN := Aside0.mk hN
  clear hA hc hl hls
  rw [hN] at h1
  have d1 : decide (200 < N) = false := decide_eq_false (by omega)
  have d2 : decide (134217728 < bx) = false := decide_eq_false (by omega)
  have d3 : decide (bx < -134217728) = false := decide_eq_false (by omega)
  have d4 : decide (134217728 < bY) = false := decide_eq_false (by omega)
  have d5 : decide (bY < -134217728) = false := decide_eq_false (by omega)
  clear hN h1
  go_enter Try.func7, Try.ntmps7
  have hk4 := blk_new w (.cells #[.int .i64 x, .int .i64 y] 43)
  have hk5 := blk_new (w.alloc (.cells #[.int .i64 x, .int .i64 y] 43)) (.cells #[.int .i64 bx, .int .i64 bY] 23)
  have hk4' := blk_alloc hk4 (.cells #[.int .i64 bx, .int .i64 bY] 23)
  have HW0 := Aside0.mk (below_alloc (below_alloc (Below.refl w.heap.size w) (.cells #[.int .i64 x, .int .i64 y] 43)) (.cells #[.int .i64 bx, .int .i64 bY] 23))
  rw [World.size_alloc] at hk5
  have K4 := Aside0.mk hk4'
  have K5 := Aside0.mk hk5
  clear hk4 hk5 hk4'
  go_wp2_with (go_at_call 36; (with_reducible refine (HM.out _ HW0.out).mono ?_); rintro e w1 ⟨rfl, hb⟩; have HB := Aside0.mk (below_step HW0.out hb); have k4 := blk_below K4.out hb; have k5 := blk_below K5.out hb; have c0 := cell0 0 k4 rfl; have c1 := cell0 1 k4 rfl; have c2 := cell0 0 k5 rfl; have c3 := cell0 1 k5 rfl)
  clear c0 c1 c2 c3 HW0 K4 K5 HM d1 d2 d3 d4 d5 hb
  have K4 := Aside0.mk k4
  have K5 := Aside0.mk k5
  clear k4 k5
  refine (right1U_any A c l x y _ (Kd.C_below HA.out HB.out) HC.out (by have := HL.out; omega) (fun r hr => by have := HLS.out r hr; omega)).mono ?_
  rintro e w2 ⟨rfl, hb2⟩
  replace HB := Aside0.mk (below_step HB.out hb2)
  replace K4 := Aside0.mk (blk_below K4.out hb2)
  replace K5 := Aside0.mk (blk_below K5.out hb2)
  clear hb2
  cases hr : rightL l x y with
  | false =>
    go_wp2_with fail
    refine (alive11_any _).mono ?_
    rintro e w3 ⟨rfl, hb3⟩
    go_wp2_with fail
    go_ret
    exact ⟨rfl, below_step HB.out hb3⟩
  | true =>
    have HR := Aside0.mk hr
    clear hr
    go_wp2_with fail
    have HRm := Aside0.mk (show ∀ r ∈ l, ∀ p ∈ r, rightB p.f0 p.f1 = true from fun r hr p hp => rightL_mem HR.out hr hp)
    go_loopw [7, 54] (fun v i wr => ∃ k : Nat, i = .int .i64 k ∧ Aside0 (k ≤ l.length) ∧ Aside0 (Kd.R (Kd.slice 23 k23) 47 wr w2.heap.size (fun _ => True) v (mvL bx bY (l.take k))) ∧ Aside0 (Below w2.heap.size w2 wr)) (fun _ i _ => l.length - (intOf i).toNat)
    case atStart => exact ⟨0, rfl, ⟨Nat.zero_le _⟩, ⟨Kd.R_nil _ _ _ _ _⟩, ⟨Below.refl _ _⟩⟩
    case round =>
      obtain ⟨k, rfl, Hk, HO, HBr⟩ := hrel
      have hk := Hk.out
      have HBw := Aside0.mk (below_step HB.out HBr.out)
      have hlb : (l.length : Int) ≤ 5864062014805 := by have := HL.out; omega
      by_cases hlt : k < l.length
      · have hlt' : (k : Int) < (l.length : Int) := by omega
        have d0 : decide ((k : Int) < (l.length : Int)) = true := decide_eq_true hlt'
        obtain ⟨ad, A0, c0, e1, hx0, hc0, hC0⟩ := at_L2 HA.out (k : Int) (by omega) hlt'
        cases e1
        simp only [Int.toNat_natCast] at hx0
        replace hx0 := cell_on HBw.out hx0
        have q0 : (0 : Int) ≤ (k : Int) := by omega
        have hmem : rd_L2 l (k : Int) ∈ l := by
          unfold rd_L2
          rw [List.getD_eq_getElem?_getD, Int.toNat_natCast, List.getElem?_eq_getElem hlt]
          exact List.getElem_mem _
        have hrl : (rd_L2 l (k : Int)).length ≤ 8796093022208 := HLS.out _ hmem
        have HT := Aside0.mk (show mvL bx bY (l.take (k + 1)) = mvL bx bY (l.take k) ++ [mvR bx bY (rd_L2 l (k : Int))] from mvL_take bx bY l k hlt)
        have HRr := Aside0.mk (HRm.out _ hmem)
        obtain ⟨r, hr⟩ : ∃ r, rd_L2 l (k : Int) = r := ⟨_, rfl⟩
        rw [hr] at hx0 hc0 hC0 hrl HT HRr
        have HC0 := Aside0.mk (Kd.C_below hC0 HBw.out)
        have HRL := Aside0.mk hrl
        clear hC0 hr hmem hrl
        have hlen : (mvL bx bY (l.take k)).length = k := by simp [mvL]; omega
        obtain ⟨Av, cv, hv⟩ := Kd.R_slice HO.out
        rw [hlen] at hv
        subst hv
        have HLEN := Aside0.mk hlen
        have y2 := cell_on HBr.out (cell0 0 K5.out rfl); have y3 := cell_on HBr.out (cell0 1 K5.out rfl)
        have HY2 := Aside0.mk y2; have HY3 := Aside0.mk y3
        clear hlen y2 y3
        go_wp2_with fail
        obtain ⟨wo, hwo⟩ : ∃ wo : World, wo = wr := ⟨_, rfl⟩
        rw [← hwo] at HO HBr HBw HC0 HY2 HY3 ⊢
        clear hwo hx0
        clear wr
        go_loopw [10, 60] (fun v i wq => ∃ j : Nat, i = .int .i64 j ∧ Aside0 (j ≤ r.length) ∧ Aside0 (Kd.R k23 23 wq wo.heap.size (fun _ => True) v (mvR bx bY (r.take j))) ∧ Aside0 (Below wo.heap.size wo wq)) (fun _ i _ => r.length - (intOf i).toNat)
        case atStart => exact ⟨0, rfl, ⟨Nat.zero_le _⟩, ⟨Kd.R_nil _ _ _ _ _⟩, ⟨Below.refl _ _⟩⟩
        case round =>
          obtain ⟨j, rfl, Hj, HO1, HB1⟩ := hrel
          have hj := Hj.out
          have hrb : (r.length : Int) ≤ 8796093022208 := by have := HRL.out; omega
          by_cases hjt : j < r.length
          · have hjt' : (j : Int) < (r.length : Int) := by omega
            have d1 : decide ((j : Int) < (r.length : Int)) = true := decide_eq_true hjt'
            obtain ⟨ad', e1, z0, z1⟩ := at_T23 (Kd.C_below HC0.out HB1.out) (j : Int) (by omega) hjt'
            cases e1
            simp only [Int.toNat_natCast] at z0 z1
            have q1 : (0 : Int) ≤ (j : Int) := by omega
            have hpm : rd_T23 r (j : Int) ∈ r := by
              unfold rd_T23
              rw [List.getD_eq_getElem?_getD, Int.toNat_natCast, List.getElem?_eq_getElem hjt]
              exact List.getElem_mem _
            have hpr := (rightB_iff _ _).1 (HRr.out _ hpm)
            have HP := Aside0.mk (show mvR bx bY (r.take (j + 1)) = mvR bx bY (r.take j) ++ [mvP bx bY (rd_T23 r (j : Int))] from mvR_take bx bY r j hjt)
            generalize rd_T23 r (j : Int) = p at z0 z1 hpr HP
            clear hpm
            obtain ⟨p1, p2, p3, p4⟩ := hpr
            go_upto_region 13 with (fail)
            have y2 := cell_on (below_alloc HB1.out (.cells #[.int .i64 p.f0, .int .i64 p.f1] 23)) HY2.out
            have y3 := cell_on (below_alloc HB1.out (.cells #[.int .i64 p.f0, .int .i64 p.f1] 23)) HY3.out
            have HO2 := Aside0.mk (Kd.R_below HO1.out (below_alloc (Below.refl _ wr) (.cells #[.int .i64 p.f0, .int .i64 p.f1] 23)))
            have HB2 := Aside0.mk (below_alloc HB1.out (.cells #[.int .i64 p.f0, .int .i64 p.f1] 23))
            have kb := blk_new wr (.cells #[.int .i64 p.f0, .int .i64 p.f1] 23)
            obtain ⟨gb, hgb⟩ : ∃ gb, wr.heap.size = gb := ⟨_, rfl⟩
            rw [hgb] at kb ⊢
            generalize wr.alloc (.cells #[.int .i64 p.f0, .int .i64 p.f1] 23) = W1 at kb HO2 HB2 y2 y3 ⊢
            have v0 := cell0 0 kb rfl; have v1 := cell0 1 kb rfl
            clear hgb kb z0 z1
            have hbs := Aside0.mk (below_size HB2.out)
            have HW1 := Aside0.mk (show IntKind.i64.wrap (p.f0 + bx) = p.f0 + bx from IntWalk.i64_in _ (by omega))
            go_wp2_with (first | ((with_reducible refine gate_builtin (b := .append) (xs := #[.tmp 64, .tmp 76]) rfl ?_); at_builtin; refine Kd.R_append k23 (w0 := wo) wo.heap.size rfl (.tmp 64) (.tmp 76) 47 23 (.agg #[(.int .i64 0), (.int .i64 0)]) 16 rfl Try.underlying47 info23m rfl (by decide) (by omega) _ (mvR bx bY (r.take j)) (mvP bx bY p) [.int .i64 (p.f0 + bx), .int .i64 (p.f1 + bY)] (fun _ => True) (fun _ => False) rfl rfl (k23_mkM _ _ _ _) (fun _ hk => hk.elim) (fun _ _ => trivial) HO2.out HB2.out hbs.out ?aL ?_; (case aL => simp only [mvR, List.length_map, List.length_take]; omega); intro v1 w3 ho hb hg hat))
            go_roundw
            case rel =>
              refine ⟨j + 1, by go_num, ⟨by omega⟩, ⟨?_⟩, ⟨hb⟩⟩
              rw [HP.out]
              exact ho
            case measure => simp [intOf]; omega
          · obtain rfl : j = r.length := by omega
            have d1 : decide ((r.length : Int) < (r.length : Int)) = false := by simp
            rw [List.take_length] at HO1
            obtain ⟨A1, c1, hv1⟩ := Kd.R_slice HO1.out
            have hl1 : (mvR bx bY r).length = r.length := by simp [mvR]
            subst hv1
            have HR1 := Aside0.mk (Kd.R_newR HO1.out HO.out)
            have HO3 := Aside0.mk (Kd.R_below HO.out HB1.out)
            have HB3 := Aside0.mk (below_step HBr.out HB1.out)
            have hbs := Aside0.mk (below_size HBr.out)
            have hbs1 := Aside0.mk (below_size HB3.out)
            clear hl1 hj
            go_wp2_with (first | ((with_reducible refine gate_builtin (b := .append) (xs := #[.tmp 79, .tmp 81]) rfl ?_); at_builtin; refine Kd.R_append (Kd.slice 23 k23) (w0 := w2) w2.heap.size rfl (.tmp 79) (.tmp 81) 35 47 (.slice none 0 0) 24 rfl Try.underlying35 info47' rfl (by decide) (by omega) _ (mvL bx bY (l.take k)) (mvR bx bY r) [.slice A1 (mvR bx bY r).length c1] (fun _ => True) (fun k => True ∧ some k ≠ _) rfl rfl ⟨_, rfl, Kd.R_lower HR1.out hbs.out⟩ (fun _ hk => ⟨trivial, hk.2⟩) (fun _ _ => trivial) HO3.out HB3.out hbs1.out ?aL ?_; (case aL => rw [HLEN.out]; omega); intro v2 w4 ho hb hg hat))
            go_roundw
            case rel =>
              refine ⟨k + 1, by go_num, ⟨by omega⟩, ⟨?_⟩, ⟨hb⟩⟩
              rw [HT.out]
              exact ho
            case measure => simp [intOf]; omega
      · obtain rfl : k = l.length := by omega
        have d0 : decide ((l.length : Int) < (l.length : Int)) = false := by simp
        rw [List.take_length] at HO
        obtain ⟨A7, c7, hv7, hc7, hC7⟩ := Kd.R_reads HO.out
        have hl7 : (mvL bx bY l).length = l.length := by simp [mvL]
        have HL7 := Aside0.mk (show (mvL bx bY l).length ≤ 5864062014805 by rw [hl7]; exact HL.out)
        have HLS7 := Aside0.mk (show ∀ r ∈ mvL bx bY l, r.length ≤ 8796093022208 from fun r hr => by
          obtain ⟨r0, h0, rfl⟩ := List.mem_map.1 hr
          have := HLS.out _ h0
          simpa [mvR] using this)
        subst hv7
        have HC7 := Aside0.mk hC7
        have HCC := Aside0.mk hc7
        clear hl7 hc7 hC7 HO
        have hat := (rightB_iff _ _).1 (rightL_at HR.out)
        obtain ⟨a1, a2, a3, a4⟩ := hat
        have c0 := cell_on HBr.out (cell0 0 K4.out rfl); have c1 := cell_on HBr.out (cell0 1 K4.out rfl); have c2 := cell_on HBr.out (cell0 0 K5.out rfl); have c3 := cell_on HBr.out (cell0 1 K5.out rfl)
        have w1' : IntKind.i64.wrap (2 * bx) = 2 * bx := IntWalk.i64_in _ (by omega)
        have w2' : IntKind.i64.wrap (2 * bY) = 2 * bY := IntWalk.i64_in _ (by omega)
        have w3' : IntKind.i64.wrap (x + 2 * bx) = x + 2 * bx := IntWalk.i64_in _ (by omega)
        have w4' : IntKind.i64.wrap (y + 2 * bY) = y + 2 * bY := IntWalk.i64_in _ (by omega)
        go_wp2_with fail
        go_region_held3 (fun w' => Below wr.heap.size wr w' ∧ w'.cell? ⟨w.heap.size, 0, none⟩ = some (.int .i64 x) ∧ w'.cell? ⟨w.heap.size, 1, none⟩ = some (.int .i64 y) ∧ w'.cell? ⟨w.heap.size + 1, 0, none⟩ = some (.int .i64 bx) ∧ w'.cell? ⟨w.heap.size + 1, 1, none⟩ = some (.int .i64 bY))
    (first | (exact ⟨below_drew1 (Below.refl _ _), (World.cell?_drew _ _).trans c0, (World.cell?_drew _ _).trans c1, (World.cell?_drew _ _).trans c2, (World.cell?_drew _ _).trans c3⟩) | (have hH := ‹Below _ _ _ ∧ _›; exact ⟨below_step hH.1 ‹Below _ _ _›, cell_on ‹Below _ _ _› hH.2.1, cell_on ‹Below _ _ _› hH.2.2.1, cell_on ‹Below _ _ _› hH.2.2.2.1, cell_on ‹Below _ _ _› hH.2.2.2.2⟩) | (have hH := ‹Below _ _ _ ∧ _›; exact ⟨pw_below_drewN hH.1 _, hH.2.1, hH.2.2.1, hH.2.2.2.1, hH.2.2.2.2⟩))
    ((first
    | (fail)))
        have hh := (‹Below wr.heap.size wr _ ∧ _›)
        have HB8 := Aside0.mk (below_step HBw.out hh.1)
        have HC8 := Aside0.mk (Kd.C_below HC7.out hh.1)
        clear c0 c1 c2 c3 w1' w2' w3' w4'
        obtain ⟨_, c0, c1, c2, c3⟩ := hh
        have H0 := Aside0.mk (And.intro c0 c1)
        clear c0 c1 c2 c3
        go_wp2_with fail
        refine (right1U_any A7 c7 (mvL bx bY l) (x + 2 * bx) (y + 2 * bY) _ HC8.out HCC.out (by have := HL7.out; omega) (fun r hr => by have := HLS7.out r hr; omega)).mono ?_
        rintro e w5 ⟨rfl, hb5⟩
        replace HB8 := Aside0.mk (below_step HB8.out hb5)
        replace HC8 := Aside0.mk (Kd.C_below HC8.out hb5)
        have c0 := cell_on hb5 H0.out.1; have c1 := cell_on hb5 H0.out.2
        clear hb5
        cases hr : rightL (mvL bx bY l) (x + 2 * bx) (y + 2 * bY) with
        | false =>
          go_wp2_with fail
          refine (alive11_any _).mono ?_
          rintro e w6 ⟨rfl, hb6⟩
          go_wp2_with fail
          go_ret
          exact ⟨rfl, below_step HB8.out hb6⟩
        | true =>
          have hm := windU_mv bx bY x y l HR.out hr
          obtain ⟨n, hn⟩ : ∃ n, windNU x y (allE l) = n := ⟨_, rfl⟩
          obtain ⟨o, ho⟩ : ∃ o, windO x y (allE l) = o := ⟨_, rfl⟩
          rw [hn, ho] at hm
          have HM1 := Aside0.mk (And.intro hn ho)
          have HM2 := Aside0.mk hm
          clear hn ho hm hr
          go_wp2_with fail
          refine (windU_any A c l x y _ (Kd.C_below HA.out HB8.out) HC.out (by have := HL.out; omega) (fun r hr => by have := HLS.out r hr; omega)).mono ?_
          rintro e w6 ⟨rfl, hb6⟩
          replace HB8 := Aside0.mk (below_step HB8.out hb6)
          replace HC8 := Aside0.mk (Kd.C_below HC8.out hb6)
          clear hb6 c0 c1
          rw [HM1.out.1, HM1.out.2]
          go_wp2_with fail
          refine (windU_any A7 c7 (mvL bx bY l) (x + 2 * bx) (y + 2 * bY) _ HC8.out HCC.out (by have := HL7.out; omega) (fun r hr => by have := HLS7.out r hr; omega)).mono ?_
          rintro e w7 ⟨rfl, hb7⟩
          replace HB8 := Aside0.mk (below_step HB8.out hb7)
          clear hb7
          rw [HM2.out.1, HM2.out.2]
          go_wp2_with fail
          refine (alive11_any _).mono ?_
          rintro e w8 ⟨rfl, hb8⟩
          go_wp2_with fail
          go_ret
          exact ⟨rfl, below_step HB8.out hb8⟩

theorem inputMovedU_walk
    (w : World) (A : Option Addr) (c : Nat) (l : List (List S23)) (hc : l.length ≤ c) (hA : Kd.C (Kd.slice 23 k23) w A l.length l) (x y bx bY : Int) (hl : l.length ≤ 5864062014805) (hls : ∀ r ∈ l, r.length ≤ 8796093022208) :
    Calls Try.prog 7 #[.slice A l.length c, .agg #[.int .i64 x, .int .i64 y], .agg #[.int .i64 bx, .int .i64 bY]] w fun e w' => e = .returned (.bool true) ∧ Below w.heap.size w w' := by
  by_cases h1 : wrap64 ((l.length + sumL l : Nat) : Int) ≤ 200
  · by_cases h2 : 134217728 < bx
    · exact movedU_out w A c l hc hA x y bx bY hl hls (Or.inr ⟨h1, Or.inl h2⟩)
    · by_cases h3 : bx < -134217728
      · exact movedU_out w A c l hc hA x y bx bY hl hls (Or.inr ⟨h1, Or.inr ⟨by omega, Or.inl h3⟩⟩)
      · by_cases h4 : 134217728 < bY
        · exact movedU_out w A c l hc hA x y bx bY hl hls (Or.inr ⟨h1, Or.inr ⟨by omega, Or.inr ⟨by omega, Or.inl h4⟩⟩⟩)
        · by_cases h5 : bY < -134217728
          · exact movedU_out w A c l hc hA x y bx bY hl hls (Or.inr ⟨h1, Or.inr ⟨by omega, Or.inr ⟨by omega, Or.inr ⟨by omega, h5⟩⟩⟩⟩)
          · exact movedU_in w A c l hc hA x y bx bY hl hls h1 (by omega) (by omega) (by omega) (by omega)
  · exact movedU_out w A c l hc hA x y bx bY hl hls (Or.inl (by omega))
end Go.Proofs.Ytpfgjagpaddcpaa.Own
