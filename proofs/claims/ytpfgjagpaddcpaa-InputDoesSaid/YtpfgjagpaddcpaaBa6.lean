import Derived.Test.YtpfgjagpaddcpaaBa4
import Derived.Test.YtpfgjagpaddcpaaBa5
import Derived.Deep.RegionHeld3
import Derived.ArgAppend
import Derived.Deep.Upon
import Derived.Deep.RegionLaw
import Derived.Test.YtpfgjagpaddcpaaRows
/-! Texts that this law leans on, put together by a program of this session: G3 H2 G6 U0. -/
/-! alive of law 11. -/
namespace Go.Proofs.Ytpfgjagpaddcpaa.Own
open Go.RowKit Go.Proofs.YtpfgjagpaddcpaaW.PrintWords Go.Proofs.YtpfgjagpaddcpaaW.PrintLast Go.Proofs.YtpfgjagpaddcpaaW.PrintMore
open Go.Proofs.Ytpfgjagpaddcpaa.X
set_option linter.unusedVariables false
set_option linter.unusedSimpArgs false

/-- A block of ring headers, as rings. -/
theorem C_hdrs {w : World} {b : Nat} {cs : Array Value} {hs : List Hdr} {ls : List (List S23)} (hb : w.heap[b]? = some (.cells cs 47 (0, 0))) (hcs : cs.toList = encs encH hs) (hh : HdrsOf w hs ls) (hl : hs.length ≤ 9223372036854775807) :
    Kd.C (Kd.slice 23 k23) w (some ⟨b, 0, none⟩) ls.length ls := by
  have hle : (encs encH hs).length = hs.length := by simp [encs]
  have hown : w.ownsRow 0 47 1 (.slice (some ⟨b, 0, none⟩) hs.length hs.length) hs.length (encs encH hs) := by
    refine ⟨by rw [hle, Nat.mul_one], Or.inr ⟨b, hs.length, cs, rfl, Nat.zero_le _, hb, Nat.le_refl _, by simpa [maxLen] using hl, ?_, ?_⟩⟩
    · rw [← Array.length_toList, hcs, hle, Nat.mul_one]
    · rw [hcs, Nat.mul_one, ← hle, List.take_length]
  obtain ⟨A, c, e1, _, h2⟩ := hdrs_row hown hh
  injection e1 with e2 e3 e4
  rw [e2]
  exact h2

theorem C_none (w : World) : Kd.C (Kd.slice 23 k23) w none ([] : List (List S23)).length [] := ⟨rfl, by decide, fun h => absurd h (Nat.lt_irrefl _)⟩

theorem C_ring1 {w : World} {b c : Nat} {A : Option Addr} {l : List S23} (hb : w.heap[b]? = some (.cells #[.slice A l.length c] 47 (0, 0))) (hC : Kd.C k23 w A l.length l) (hc : l.length ≤ c) :
    Kd.C (Kd.slice 23 k23) w (some ⟨b, 0, none⟩) 1 [l] :=
  C_hdrs (hs := [⟨A, l.length, c⟩]) (ls := [l]) hb rfl ⟨rfl, fun i hi => by
    obtain rfl : i = 0 := by simpa using hi
    exact ⟨rfl, hc, hC⟩⟩ (by simp)

theorem C_ring2 {w : World} {b c c' : Nat} {A A' : Option Addr} {l l' : List S23} (hb : w.heap[b]? = some (.cells #[.slice A l.length c, .slice A' l'.length c'] 47 (0, 0))) (hC : Kd.C k23 w A l.length l) (hc : l.length ≤ c) (hC' : Kd.C k23 w A' l'.length l') (hc' : l'.length ≤ c') :
    Kd.C (Kd.slice 23 k23) w (some ⟨b, 0, none⟩) 2 [l, l'] :=
  C_hdrs (hs := [⟨A, l.length, c⟩, ⟨A', l'.length, c'⟩]) (ls := [l, l']) hb rfl ⟨rfl, fun i hi => by
    match i, hi with
    | 0, _ => exact ⟨rfl, hc, hC⟩
    | 1, _ => exact ⟨rfl, hc', hC'⟩
    | i + 2, hi => exact absurd hi (by simp)⟩ (by simp)

/-- The square. -/
abbrev sqR : List S23 := [⟨0, 0⟩, ⟨2, 0⟩, ⟨2, 2⟩, ⟨0, 2⟩]

abbrev sqC : Array Value := #[.int .i64 0, .int .i64 0, .int .i64 2, .int .i64 0, .int .i64 2, .int .i64 2, .int .i64 0, .int .i64 2]
abbrev sqJ (g1 : Nat) : Array Value := #[.slice (some ⟨g1, 0, none⟩) 1 1, .slice none 0 0, .int .i64 0, .int .i64 0, .int .i64 0, .int .i64 9]
/-- What alive's own blocks hold. -/
def Alv (w : World) (g0 g1 g2 : Nat) (W : World) : Prop :=
  W.heap[g0]? = some (.cells sqC 23 (0, 0)) ∧ W.heap[g1]? = some (.cells #[.slice (some ⟨g0, 0, none⟩) 4 4] 47 (0, 0)) ∧ W.heap[g2]? = some (.cells (sqJ g1) 41 (0, 0)) ∧ Below w.heap.size w W

theorem Alv.below {w : World} {g0 g1 g2 : Nat} {W W' : World} (h : Alv w g0 g1 g2 W) (hb : Below W.heap.size W W') : Alv w g0 g1 g2 W' :=
  ⟨blk_below h.1 hb, blk_below h.2.1 hb, blk_below h.2.2.1 hb, below_step h.2.2.2 hb⟩
theorem Alv.ring {w : World} {g0 g1 g2 : Nat} {W : World} (h : Alv w g0 g1 g2 W) : Kd.C (Kd.slice 23 k23) W (some ⟨g1, 0, none⟩) [sqR].length [sqR] :=
  C_ring1 (c := 4) (l := sqR) h.2.1 (C_block sqR h.1 rfl (by decide)) (by decide)
theorem Alv.cells {w : World} {g0 g1 g2 : Nat} {W : World} (h : Alv w g0 g1 g2 W) : W.cell? ⟨g2, 0, none⟩ = some (.slice (some ⟨g1, 0, none⟩) 1 1) ∧ W.cell? ⟨g2, 1, none⟩ = some (.slice none 0 0) ∧ W.cell? ⟨g2, 2, none⟩ = some (.int .i64 0) ∧ W.cell? ⟨g2, 3, none⟩ = some (.int .i64 0) ∧ W.cell? ⟨g2, 4, none⟩ = some (.int .i64 0) ∧ W.cell? ⟨g2, 5, none⟩ = some (.int .i64 9) :=
  ⟨cell0 0 h.2.2.1 rfl, cell0 1 h.2.2.1 rfl, cell0 2 h.2.2.1 rfl, cell0 3 h.2.2.1 rfl, cell0 4 h.2.2.1 rfl, cell0 5 h.2.2.1 rfl⟩

theorem alv_start (w : World) : Alv w w.heap.size (w.heap.size + 1) (w.heap.size + 1 + 1) (((w.alloc (.cells sqC 23)).alloc (.cells #[.slice (some ⟨w.heap.size, 0, none⟩) 4 4] 47)).alloc (.cells (sqJ (w.heap.size + 1)) 41)) := by
  refine ⟨?_, ?_, ?_, ?_⟩
  · exact blk_alloc (blk_alloc (blk_new w _) _) _
  · have h := blk_alloc (blk_new (w.alloc (.cells sqC 23)) (.cells #[.slice (some ⟨w.heap.size, 0, none⟩) 4 4] 47)) (.cells (sqJ (w.heap.size + 1)) 41)
    rwa [World.size_alloc] at h
  · have h := blk_new ((w.alloc (.cells sqC 23)).alloc (.cells #[.slice (some ⟨w.heap.size, 0, none⟩) 4 4] 47)) (.cells (sqJ (w.heap.size + 1)) 41)
    rwa [World.size_alloc, World.size_alloc] at h
  · exact below_alloc (below_alloc (below_alloc (Below.refl w.heap.size w) _) _) _

theorem eqRings_sq : eqRings [sqR] [sqR] = true := by decide +kernel
theorem chk_sq {w : World} {g0 g1 g2 : Nat} {W W' : World} (h : Alv w g0 g1 g2 W) (hb : Below W.heap.size W W') : Calls Try.prog 45 #[.agg (sqJ g1)] W' fun e w' => e = .returned (.int .i64 0) ∧ Below W'.heap.size W' w' :=
  (check_any _ _ 1 0 [sqR] [] 0 0 0 9 _ (h.below hb).ring (C_none _) (by decide) (by decide) (by decide) (by decide) (by decide)).mono fun e w' ⟨h1, h2⟩ => ⟨h1.trans (by rw [show checkB [sqR] [] 0 0 0 9 = 0 from by decide +kernel]), h2⟩
theorem chk_none (W : World) : Calls Try.prog 45 #[.agg #[.slice none 0 0, .slice none 0 0, .int .i64 0, .int .i64 0, .int .i64 0, .int .i64 0]] W fun e w' => e = .returned (.int .i64 113) ∧ Below W.heap.size W w' :=
  (check_any none none 0 0 [] [] 0 0 0 0 _ (C_none _) (C_none _) (by decide) (by decide) (by decide) (by decide) (by decide)).mono fun e w' ⟨h1, h2⟩ => ⟨h1.trans (by rw [show checkB [] [] 0 0 0 0 = 113 from by decide +kernel]), h2⟩
theorem wants_sq {w : World} {g0 g1 g2 : Nat} {W W' : World} (h : Alv w g0 g1 g2 W) (hb : Below W.heap.size W W') : Calls Try.prog 35 #[.agg (sqJ g1), .int .i64 1, .int .i64 0] W' fun e w' => e = .returned (.bool true) ∧ Below W'.heap.size W' w' :=
  input_Wants.calls _ 1 [sqR] none 0 [] 0 0 0 9 1 0 true _ (h.below hb).ring (by decide) (C_none _) (by decide) (by decide +kernel)
theorem clone_sq {w : World} {g0 g1 g2 : Nat} {W W' : World} (h : Alv w g0 g1 g2 W) (hb : Below W.heap.size W W') : Calls Try.prog 49 #[.agg (sqJ g1)] W' fun e w' =>
    (∃ A1 c1 A2 c2, e = .returned (.agg #[.slice A1 1 c1, .slice A2 0 c2, .int .i64 0, .int .i64 0, .int .i64 0, .int .i64 9]) ∧ Aside0 (Kd.C (Kd.slice 23 k23) w' A1 1 [sqR] ∧ Kd.C (Kd.slice 23 k23) w' A2 0 [])) ∧ Below W'.heap.size W' w' :=
  (clone_any _ none 1 0 [sqR] [] 0 0 0 9 _ (h.below hb).ring (C_none _) (by decide) (by decide) (by decide) (by decide)).mono fun e w' ⟨⟨v1, v2, m, h1, _, h3, h4⟩, h2⟩ => by
    obtain ⟨A1, c1, rfl, _, k1⟩ := Kd.R_reads h3
    obtain ⟨A2, c2, rfl, _, k2⟩ := Kd.R_reads h4
    exact ⟨⟨A1, c1, A2, c2, h1, ⟨k1, k2⟩⟩, h2⟩
theorem same_sq {w : World} {g0 g1 g2 : Nat} {W W' : World} {A1 A2 : Option Addr} (c1 c2 : Nat) (h : Alv w g0 g1 g2 W) (hb : Below W.heap.size W W') (h1 : Kd.C (Kd.slice 23 k23) W' A1 1 [sqR]) (h2 : Kd.C (Kd.slice 23 k23) W' A2 0 []) :
    Calls Try.prog 50 #[.agg (sqJ g1), .agg #[.slice A1 1 c1, .slice A2 0 c2, .int .i64 0, .int .i64 0, .int .i64 0, .int .i64 9]] W' fun e w' => e = .returned (.bool true) ∧ Below W'.heap.size W' w' :=
  (same_any _ none 1 0 [sqR] [] 0 0 0 9 A1 A2 c1 c2 [sqR] [] 0 0 0 9 _ (h.below hb).ring (C_none _) h1 h2 (by decide) (by decide) (by decide) (by decide)).mono fun e w' ⟨h3, h4⟩ => ⟨h3.trans (by rw [show sameB [sqR] [] 0 0 0 9 [sqR] [] 0 0 0 9 = true from by decide +kernel]), h4⟩
theorem below_drawn0 {W W' : World} (h : Drawn0 W W') : Below W.heap.size W W' := by obtain ⟨m, rfl⟩ := h.out; exact pw_below_drewN (Below.refl _ _) m
theorem fills_sq (W : World) : Calls Try.prog 32 #[.int .i64 0, .int .i64 (-1)] W fun e w' => e = .returned (.bool true) ∧ Below W.heap.size W w' :=
  (input_Fills.calls 0 (-1) true _ (by decide +kernel)).mono fun e w' ⟨h1, h2⟩ => ⟨h1, below_drawn0 h2⟩
theorem does_sq (W : World) : Calls Try.prog 33 #[.int .i64 2, .bool true, .bool false] W fun e w' => e = .returned (.bool true) ∧ Below W.heap.size W w' :=
  (input_Does.calls 2 true false true _ (by decide +kernel)).mono fun e w' ⟨h1, h2⟩ => ⟨h1, below_drawn0 h2⟩

set_option maxRecDepth 100000 in
set_option maxHeartbeats 8000000 in
theorem alive11_any (w : World) : Calls Try.prog 31 #[] w fun e w' => e = .returned (.bool true) ∧ Below w.heap.size w w' := by
  have hu23 := Try.underlying23
  have hu35 := Try.underlying35
  have hu41 := Try.underlying41
  have hu47 := Try.underlying47
  have hu67 := Try.underlying67
  have hmx : Try.prog.follows .mixedOrders = true := by kernel_rfl
  go_enter Try.func31, Try.ntmps31
  go_wp2_with fail
  have HV := Aside0.mk (alv_start w)
  generalize (((w.alloc (.cells sqC 23)).alloc (.cells #[.slice (some ⟨w.heap.size, 0, none⟩) 4 4] 47)).alloc (.cells (sqJ (w.heap.size + 1)) 41)) = W0 at HV ⊢
  refine (wind_any _ _ [sqR] _ _ _ HV.out.ring (by decide) (by decide)).mono ?_
  rintro e w1 ⟨rfl, hb⟩
  have HV1 := Aside0.mk (HV.out.below hb)
  clear hb HV
  rw [show windN 2 2 (allE [sqR]) = 1 from by decide +kernel, show windO 2 2 (allE [sqR]) = false from by decide +kernel]
  obtain ⟨c0, c1, c2, c3, c4, c5⟩ := HV1.out.cells
  go_wp2_with fail
  refine (wind_any _ _ [sqR] _ _ _ HV1.out.ring (by decide) (by decide)).mono ?_
  rintro e w2 ⟨rfl, hb⟩
  have HV2 := Aside0.mk (HV1.out.below hb)
  clear hb HV1
  rw [show windN 0 2 (allE [sqR]) = 0 from by decide +kernel, show windO 0 2 (allE [sqR]) = true from by decide +kernel]
  clear c0 c1 c2 c3 c4 c5
  obtain ⟨c0, c1, c2, c3, c4, c5⟩ := HV2.out.cells
  go_wp2_with fail
  refine (edges_any _ _ _ _ [sqR] [] _ _ _ _ _ HV2.out.ring (C_none _) (by decide) (by decide) (by decide)).mono ?_
  rintro e w3 ⟨v, rfl, hown, hb⟩
  have HV3 := Aside0.mk (HV2.out.below hb)
  clear hb HV2
  rw [show (allE [sqR]).length + (allE ([] : List (List S23))).length = 4 from by decide +kernel] at hown
  obtain ⟨g', cap', rfl⟩ := ownsRow_succ hown
  have d0 := (hown.cellAt 15 (by decide)).trans (show _ = some (.int .i64 0) from by kernel_rfl)
  have d1 := (hown.cellAt 16 (by decide)).trans (show _ = some (.int .i64 2) from by kernel_rfl)
  have d2 := (hown.cellAt 17 (by decide)).trans (show _ = some (.int .i64 0) from by kernel_rfl)
  have d3 := (hown.cellAt 18 (by decide)).trans (show _ = some (.int .i64 0) from by kernel_rfl)
  have d4 := (hown.cellAt 19 (by decide)).trans (show _ = some (.int .i64 0) from by kernel_rfl)
  clear c0 c1 c2 c3 c4 c5 hown
  obtain ⟨c0, c1, c2, c3, c4, c5⟩ := HV3.out.cells
  go_wp2_with fail
  go_region_held3 (fun w' => Below w3.heap.size w3 w' ∧ w'.cell? ⟨w.heap.size + 1 + 1, 0, none⟩ = some (.slice (some ⟨w.heap.size + 1, 0, none⟩) 1 1) ∧ w'.cell? ⟨w.heap.size + 1 + 1, 1, none⟩ = some (.slice none 0 0) ∧ w'.cell? ⟨w.heap.size + 1 + 1, 2, none⟩ = some (.int .i64 0) ∧ w'.cell? ⟨w.heap.size + 1 + 1, 3, none⟩ = some (.int .i64 0) ∧ w'.cell? ⟨w.heap.size + 1 + 1, 4, none⟩ = some (.int .i64 0) ∧ w'.cell? ⟨w.heap.size + 1 + 1, 5, none⟩ = some (.int .i64 9) ∧ w'.cell? ⟨g', 15, none⟩ = some (.int .i64 0) ∧ w'.cell? ⟨g', 16, none⟩ = some (.int .i64 2) ∧ w'.cell? ⟨g', 17, none⟩ = some (.int .i64 0) ∧ w'.cell? ⟨g', 18, none⟩ = some (.int .i64 0) ∧ w'.cell? ⟨g', 19, none⟩ = some (.int .i64 0))
    (first | (exact ⟨below_drew1 (Below.refl _ _), (World.cell?_drew _ _).trans c0, (World.cell?_drew _ _).trans c1, (World.cell?_drew _ _).trans c2, (World.cell?_drew _ _).trans c3, (World.cell?_drew _ _).trans c4, (World.cell?_drew _ _).trans c5, (World.cell?_drew _ _).trans d0, (World.cell?_drew _ _).trans d1, (World.cell?_drew _ _).trans d2, (World.cell?_drew _ _).trans d3, (World.cell?_drew _ _).trans d4⟩) | (have hH := ‹Below _ _ _ ∧ _›; exact ⟨below_step hH.1 ‹Below _ _ _›, cell_on ‹Below _ _ _› hH.2.1, cell_on ‹Below _ _ _› hH.2.2.1, cell_on ‹Below _ _ _› hH.2.2.2.1, cell_on ‹Below _ _ _› hH.2.2.2.2.1, cell_on ‹Below _ _ _› hH.2.2.2.2.2.1, cell_on ‹Below _ _ _› hH.2.2.2.2.2.2.1, cell_on ‹Below _ _ _› hH.2.2.2.2.2.2.2.1, cell_on ‹Below _ _ _› hH.2.2.2.2.2.2.2.2.1, cell_on ‹Below _ _ _› hH.2.2.2.2.2.2.2.2.2.1, cell_on ‹Below _ _ _› hH.2.2.2.2.2.2.2.2.2.2.1, cell_on ‹Below _ _ _› hH.2.2.2.2.2.2.2.2.2.2.2⟩) | (have hH := ‹Below _ _ _ ∧ _›; exact ⟨pw_below_drewN hH.1 _, hH.2.1, hH.2.2.1, hH.2.2.2.1, hH.2.2.2.2.1, hH.2.2.2.2.2.1, hH.2.2.2.2.2.2.1, hH.2.2.2.2.2.2.2.1, hH.2.2.2.2.2.2.2.2.1, hH.2.2.2.2.2.2.2.2.2.1, hH.2.2.2.2.2.2.2.2.2.2.1, hH.2.2.2.2.2.2.2.2.2.2.2⟩))
    ((first
    | (go_at_call 45; (with_reducible refine (chk_sq HV3.out (‹Below w3.heap.size w3 _ ∧ _›).1).mono ?_); rintro e w4 ⟨rfl, hb⟩)
    | (go_at_call 45; (with_reducible refine (chk_none _).mono ?_); rintro e w4 ⟨rfl, hb⟩)
    | (go_at_call 32; (with_reducible refine (fills_sq _).mono ?_); rintro e w4 ⟨rfl, hb⟩)
    | (go_at_call 33; (with_reducible refine (does_sq _).mono ?_); rintro e w4 ⟨rfl, hb⟩)
    | (go_at_call 35; (with_reducible refine (wants_sq HV3.out (‹Below w3.heap.size w3 _ ∧ _›).1).mono ?_); rintro e w4 ⟨rfl, hb⟩)
    | (go_at_call 49; (with_reducible refine (clone_sq HV3.out (‹Below w3.heap.size w3 _ ∧ _›).1).mono ?_); rintro e w4 ⟨⟨A1, c1', A2, c2', rfl, HCL⟩, hb⟩)
    | (go_at_call 50; (with_reducible refine (same_sq _ _ HV3.out (‹Below w3.heap.size w3 _ ∧ _›).1 HCL.out.1 HCL.out.2).mono ?_); rintro e w4 ⟨rfl, hb⟩)))
  all_goals (go_wp2_with fail; go_ret; exact ⟨rfl, below_step HV3.out.2.2.2 (‹Below w3.heap.size w3 _ ∧ _›).1⟩)
end Go.Proofs.Ytpfgjagpaddcpaa.Own

/-! What was walked by hand, in the printed texts' form: law 11's alive, Check, Wind. -/
namespace Go.Proofs.Ytpfgjagpaddcpaa.X
open Go.RowKit Go.Proofs.YtpfgjagpaddcpaaW.PrintWords Go.Proofs.YtpfgjagpaddcpaaW.PrintLast Go.Proofs.YtpfgjagpaddcpaaW.PrintMore
open Go.Proofs.Ytpfgjagpaddcpaa.Own

def cobweblaw11_alive.f : Option Bool := some true
theorem cobweblaw11_alive.calls (r : Bool) (w : World) (h : cobweblaw11_alive.f = some r) : Calls Try.prog 31 #[] w fun e w' => e = .returned (.bool r) ∧ Below w.heap.size w w' := by
  obtain rfl := Option.some.inj h
  exact alive11_any w
end Go.Proofs.Ytpfgjagpaddcpaa.X

/-! Rings put together by append; how many a job has. -/
namespace Go.Proofs.Ytpfgjagpaddcpaa.Own
open Go.RowKit Go.Deep Go.Proofs.YtpfgjagpaddcpaaW.PrintWords Go.Proofs.YtpfgjagpaddcpaaW.PrintLast Go.Proofs.YtpfgjagpaddcpaaW.PrintMore
open Go.Proofs.Ytpfgjagpaddcpaa.X
set_option linter.unusedVariables false
set_option linter.unusedSimpArgs false

theorem encs_of_reads {w : World} {A : Option Addr} {n : Nat} {hs : List Hdr} (h : ReadsOf encH hdr0 w A n hs) {ad : Addr} (hA : A = some ad) : ∀ j u, (encs encH hs)[j]? = some u → w.cell? (ad.add j) = some u := by
  intro j u hu
  have hj : j < hs.length := by
    have := (List.getElem?_eq_some_iff.1 hu).1
    simpa [encs] using this
  obtain ⟨ad', e, hc⟩ := h.2.2 (by rw [← h.1]; omega)
  rw [hA] at e
  cases e
  rw [hc j (by rw [← h.1]; exact hj), ← encs_get hs j hj]
  exact hu

theorem HdrsOf.kept {w w' : World} {hs : List Hdr} {ls : List (List S23)} (h : HdrsOf w hs ls) (hb : Below w.heap.size w w') : HdrsOf w' hs ls := h.below hb

/-- append of rings to rings that fill their row: all of them, in a row. -/
theorem run_append_full (w : World) (A B : Option Addr) (cb : Nat) (la lb : List (List S23)) (hA : Kd.C (Kd.slice 23 k23) w A la.length la) (hB : Kd.C (Kd.slice 23 k23) w B lb.length lb) (hl : la.length + lb.length ≤ 1000000000000) (ty : TypeId) :
    ∃ R c' w', (Builtin.append_ #[35, 35] ty #[.slice A la.length la.length, .slice B lb.length cb]).run Try.prog w = .ok (.slice R (la.length + lb.length) c') w' ∧ la.length + lb.length ≤ c' ∧ Kd.C (Kd.slice 23 k23) w' R (la.length + lb.length) (la ++ lb) ∧ Below w.heap.size w w' := by
  obtain ⟨i0, hi, hz0, hz1, hz2⟩ := info_parts info47'
  obtain ⟨ha, hra, hha⟩ := hdrs_of hA
  obtain ⟨hb, hrb, hhb⟩ := hdrs_of hB
  have la1 := hha.1
  have lb1 := hhb.1
  have lea : (encs encH ha).length = la.length * 1 := by rw [Nat.mul_one, ← la1]; simp [encs]
  have leb : (encs encH hb).length = lb.length * 1 := by rw [Nat.mul_one, ← lb1]; simp [encs]
  by_cases h0 : lb.length = 0
  · obtain rfl : lb = [] := List.length_eq_zero_iff.1 h0
    have hs : Src Try.prog i0.size 35 (.slice B 0 cb) 0 [] w := by
      cases B with
      | none => exact Src.ofNil w Try.underlying35 cb
      | some ad => exact Src.ofSlice w Try.underlying35 ad 0 cb [] (by simp) (fun j u hu => by simp at hu) (fun u hu => by cases hu)
    refine ⟨A, la.length, w, run_append_nothing w 35 35 ty 47 i0 Try.underlying35 hi A la.length la.length (Nat.le_refl _) _ hs, by simp, ?_, Below.refl _ _⟩
    simpa using hA
  · obtain ⟨bd, hBd, _⟩ := hrb.2.2 (by omega)
    subst hBd
    have hcb := encs_of_reads hrb rfl
    have h1c : ∀ u ∈ encs encH hb, u.oneCell' = true := by
      intro u hu
      obtain ⟨h, _, rfl⟩ := List.mem_map.1 hu
      exact encH_one h
    have fin : ∀ v' w', w'.ownsRow w.heap.size 47 1 v' (la.length + lb.length) (encs encH ha ++ encs encH hb) → w.grownBy w' none → ∃ R c', v' = .slice R (la.length + lb.length) c' ∧ la.length + lb.length ≤ c' ∧ Kd.C (Kd.slice 23 k23) w' R (la.length + lb.length) (la ++ lb) ∧ Below w.heap.size w w' := by
      intro v' w' hown hg
      have hbel : Below w.heap.size w w' := (Below.refl _ _).grown hg (Nat.le_refl _) (fun k e => by cases e)
      have hh := (hha.below hbel).append (hhb.below hbel)
      have ho : w'.ownsRow w.heap.size 47 1 v' (ha ++ hb).length (encs encH (ha ++ hb)) := by
        rw [List.length_append, la1, lb1]
        simpa [encs] using hown
      obtain ⟨R, c', e, h2, h3⟩ := hdrs_row ho hh
      rw [List.length_append] at e h2 h3
      exact ⟨R, c', e, h2, h3, hbel⟩
    cases A with
    | none =>
      have hn : la = [] := by
        rcases Nat.eq_zero_or_pos la.length with h | h
        · exact List.length_eq_zero_iff.1 h
        · obtain ⟨ad, e, _⟩ := hA.2.2 h
          cases e
      subst hn
      obtain rfl : ha = [] := List.length_eq_zero_iff.1 (by simpa using la1)
      obtain ⟨v', w', hrun, r1, r2, _⟩ := run_append_own (P := Try.prog) w w.heap.size 35 ty 47 i0 (.slice none 0 0) 1 24 Try.underlying35 hi hz0 hz1 hz2 rfl (by decide) (.slice none 0 0) 0 [] (World.ownsRow_nil w _ 47 1) bd lb.length cb (encs encH hb) leb hcb h1c (by unfold maxLen; omega) (by omega) (Nat.le_refl _)
      obtain ⟨R, c', rfl, h2⟩ := fin v' w' (by simpa [encs] using r1) r2
      exact ⟨R, c', w', by simpa using hrun, h2⟩
    | some ad =>
      obtain ⟨v', w', hrun, r1, r2⟩ := run_append_arg_grows (P := Try.prog) w 35 ty 47 i0 (.slice none 0 0) 1 24 Try.underlying35 hi hz0 hz1 hz2 rfl (by decide) ad la.length la.length (encs encH ha) lea (encs_of_reads hra rfl) bd lb.length cb (encs encH hb) leb hcb (by omega) (by unfold maxLen; omega) (by omega)
      obtain ⟨R, c', rfl, h2⟩ := fin v' w' r1 r2
      exact ⟨R, c', w', hrun, h2⟩

theorem step_append_full {ops : Array Oper} {o : Oper} {a : Act} {w : World} {K : Act → World → Prop} {Q : Exit → Act → World → Prop} {E : Prop} (hg : o.guard = none) (s x : Operand)
    (hop : o.op = Op.call { callee := Callee.builtin Builtin.append, args := #[s, x], argTypes := #[35, 35] })
    (A B : Option Addr) (cb : Nat) (la lb : List (List S23)) (hs : a.eval s = .slice A la.length la.length) (hx : a.eval x = .slice B lb.length cb) (hA : Kd.C (Kd.slice 23 k23) w A la.length la) (hB : Kd.C (Kd.slice 23 k23) w B lb.length lb) (hl : la.length + lb.length ≤ 1000000000000)
    (hK : ∀ R c' w', la.length + lb.length ≤ c' → Kd.C (Kd.slice 23 k23) w' R (la.length + lb.length) (la ++ lb) → Below w.heap.size w w' → K (a.put o.dst (.slice R (la.length + lb.length) c')) w') :
    if Region.wanted o (yielded ops a.tmps) = true then Oper.wp Try.prog o a w K Q else E := by
  have hw : Region.wanted o (yielded ops a.tmps) = true := by simp [Region.wanted, hg]
  rw [if_pos hw]
  obtain ⟨R, c', w', hrun, r1, r2, r3⟩ := run_append_full w A B cb la lb hA hB hl o.type
  unfold Oper.wp
  simp [execOp, hop, resolve, invoke, builtin, hs, hx, hrun, Result.andThen]
  exact hK R c' w' r1 r2 r3

theorem sumL_drop (ls : List (List S23)) (i : Nat) (h : i < ls.length) : sumL (ls.take (i + 1)) = sumL (ls.take i) + (ls.getD i []).length := by
  unfold sumL
  rw [List.take_add_one, List.map_append, List.sum_append, List.getD_eq_getElem?_getD, List.getElem?_eq_getElem h]
  simp
theorem sumL_take_le (ls : List (List S23)) (i : Nat) : sumL (ls.take i) ≤ sumL ls := by
  have : sumL ls = sumL (ls.take i) + sumL (ls.drop i) := by rw [← sumL_app, List.take_append_drop]
  omega

set_option maxRecDepth 100000 in
set_option maxHeartbeats 8000000 in
theorem many_any (A B : Option Addr) (ca cb : Nat) (la lb : List (List S23)) (o f r c : Int) (w : World) (hA : Kd.C (Kd.slice 23 k23) w A la.length la) (hca : la.length ≤ ca) (hB : Kd.C (Kd.slice 23 k23) w B lb.length lb) (hcb : lb.length ≤ cb)
    (hl : la.length + lb.length + sumL la + sumL lb ≤ 1000000000000) :
    Calls Try.prog 36 #[.agg #[.slice A la.length ca, .slice B lb.length cb, .int .i64 o, .int .i64 f, .int .i64 r, .int .i64 c]] w fun e w' => e = .returned (.int .i64 ((la.length + lb.length + sumL la + sumL lb : Nat) : Int)) ∧ Below w.heap.size w w' := by
  have hu35 := Try.underlying35
  have hu37 := Try.underlying37
  have HA := Aside0.mk hA
  have HB := Aside0.mk hB
  have HCA := Aside0.mk hca
  have HL := Aside0.mk hl
  have hw0 : IntKind.i64.wrap ((la.length : Int) + (lb.length : Int)) = (la.length : Int) + (lb.length : Int) := IntWalk.i64_in _ (by omega)
  clear hA hB hcb hl
  go_enter Try.func36, Try.ntmps36
  go_wp2_with fail
  have HLL := Aside0.mk (show la.length + lb.length ≤ 1000000000000 by have := HL.out; omega)
  have hk := blk_new w (.cells #[.slice A la.length ca, .slice B lb.length cb, .int .i64 o, .int .i64 f, .int .i64 r, .int .i64 c] 37)
  have HW0 := Aside0.mk (below_alloc (Below.refl w.heap.size w) (.cells #[.slice A la.length ca, .slice B lb.length cb, .int .i64 o, .int .i64 f, .int .i64 r, .int .i64 c] 37))
  generalize w.alloc (.cells #[.slice A la.length ca, .slice B lb.length cb, .int .i64 o, .int .i64 f, .int .i64 r, .int .i64 c] 37) = W0 at hk HW0 ⊢
  obtain ⟨g, hg⟩ : ∃ g, w.heap.size = g := ⟨_, rfl⟩
  rw [hg] at hk ⊢
  have K0 := Aside0.mk hk
  have HG := Aside0.mk hg
  clear hk hg
  have c0 := cell0 0 K0.out rfl; have c1 := cell0 1 K0.out rfl; have c2 := cell0 2 K0.out rfl; have c3 := cell0 3 K0.out rfl; have c4 := cell0 4 K0.out rfl; have c5 := cell0 5 K0.out rfl
  go_region_held3 (fun w' => Below W0.heap.size W0 w' ∧ w'.cell? ⟨g, 0, none⟩ = some (.slice A la.length ca) ∧ w'.cell? ⟨g, 1, none⟩ = some (.slice B lb.length cb) ∧ w'.cell? ⟨g, 2, none⟩ = some (.int .i64 o) ∧ w'.cell? ⟨g, 3, none⟩ = some (.int .i64 f) ∧ w'.cell? ⟨g, 4, none⟩ = some (.int .i64 r) ∧ w'.cell? ⟨g, 5, none⟩ = some (.int .i64 c))
    (first | (exact ⟨below_drew1 (Below.refl _ _), (World.cell?_drew _ _).trans c0, (World.cell?_drew _ _).trans c1, (World.cell?_drew _ _).trans c2, (World.cell?_drew _ _).trans c3, (World.cell?_drew _ _).trans c4, (World.cell?_drew _ _).trans c5⟩) | (have hH := ‹Below _ _ _ ∧ _›; exact ⟨below_step hH.1 ‹Below _ _ _›, cell_on ‹Below _ _ _› hH.2.1, cell_on ‹Below _ _ _› hH.2.2.1, cell_on ‹Below _ _ _› hH.2.2.2.1, cell_on ‹Below _ _ _› hH.2.2.2.2.1, cell_on ‹Below _ _ _› hH.2.2.2.2.2.1, cell_on ‹Below _ _ _› hH.2.2.2.2.2.2⟩) | (have hH := ‹Below _ _ _ ∧ _›; exact ⟨pw_below_drewN hH.1 _, hH.2.1, hH.2.2.1, hH.2.2.2.1, hH.2.2.2.2.1, hH.2.2.2.2.2.1, hH.2.2.2.2.2.2⟩))
    ((first
    | (refine step_append_full rfl (.tmp 21) (.tmp 23) rfl A B cb la lb rfl rfl (Kd.C_below HA.out (below_step HW0.out (‹Below W0.heap.size W0 _ ∧ _›).1)) (Kd.C_below HB.out (below_step HW0.out (‹Below W0.heap.size W0 _ ∧ _›).1)) HLL.out ?_; intro R c' w4 hc4 hC4 hb; have HC4 := Aside0.mk hC4; clear hC4)))
  have HW4 := Aside0.mk (below_step HW0.out (‹Below W0.heap.size W0 _ ∧ _›).1)
  obtain ⟨ll, hll⟩ : ∃ ll, la ++ lb = ll := ⟨_, rfl⟩
  have HLN := Aside0.mk (show ll.length = la.length + lb.length by rw [← hll, List.length_append])
  have HS := Aside0.mk (show sumL ll = sumL la + sumL lb by rw [← hll, sumL_app])
  rw [hll] at HC4
  obtain ⟨N, hN⟩ : ∃ N : Int, (la.length : Int) + (lb.length : Int) = N := ⟨_, rfl⟩
  have HN := Aside0.mk (show N = ll.length ∧ N + sumL ll ≤ 1000000000000 by have h1 := HL.out; have h2 := HLN.out; have h3 := HS.out; rw [h3]; omega)
  rw [hN]
  obtain ⟨nn, hnn⟩ : ∃ nn : Nat, la.length + lb.length = nn := ⟨_, rfl⟩
  have HNN := Aside0.mk (show (nn : Int) = N by omega)
  rw [hnn] at HC4 ⊢
  clear c0 c1 c2 c3 c4 c5 hll hnn hN hw0 hca
  go_wp2_with fail
  go_loop [3, 26] (fun n i => ∃ k : Nat, Aside0 (k ≤ nn) ∧ i = .int .i64 k ∧ ∃ m : Int, n = .int .i64 m ∧ Aside0 (m = N + sumL (ll.take k))) (fun _ i => nn - (intOf i).toNat)
  case atStart => exact ⟨0, ⟨Nat.zero_le _⟩, rfl, N, rfl, ⟨by simp [sumL]⟩⟩
  case round =>
    obtain ⟨k, Hk, rfl, m, rfl, Hm⟩ := hrel
    have hk := Hk.out
    by_cases hlt : k < nn
    · have hlt' : (k : Int) < N := by have := HNN.out; omega
      have d0 : decide ((k : Int) < N) = true := decide_eq_true hlt'
      obtain ⟨ad, A0, c0, e1, hx0, hc0, hC0⟩ := at_L2 HC4.out (k : Int) (by omega) (by omega)
      cases e1
      simp only [Int.toNat_natCast] at hx0
      have q0 : (0 : Int) ≤ (k : Int) := by omega
      have q1 : (k : Int) < (nn : Int) := by omega
      have hlen : k < ll.length := by have := HN.out.1; have := HNN.out; omega
      have HT := Aside0.mk (show sumL (ll.take (k + 1)) = sumL (ll.take k) + (rd_L2 ll (k : Int)).length from sumL_drop ll k hlen)
      have HT2 := Aside0.mk (sumL_take_le ll (k + 1))
      generalize rd_L2 ll (k : Int) = r0 at hx0 hc0 HT
      have hb : 0 ≤ m ∧ m + r0.length ≤ 1000000000000 := by have h1 := Hm.out; have h2 := HT.out; have h3 := HT2.out; have h4 := HN.out; omega
      obtain ⟨hb1, hb2⟩ := hb
      have hkb : (k : Int) ≤ 1000000000000 := by have h4 := HN.out; omega
      have hwm : IntKind.i64.wrap (m + (r0.length : Int)) = m + (r0.length : Int) := IntWalk.i64_in _ (by omega)
      clear hC0 hlen hlt
      go_wp2_with fail
      go_round
      case rel => exact ⟨k + 1, ⟨by omega⟩, by go_num, _, rfl, ⟨by rw [HT.out, Hm.out]; omega⟩⟩
      case measure => simp [intOf]; omega
    · have hge : ¬ (k : Int) < N := by have := HNN.out; omega
      have d0 : decide ((k : Int) < N) = false := decide_eq_false hge
      have HE := Aside0.mk (show m = ((la.length + lb.length + sumL la + sumL lb : Nat) : Int) by
        have h1 := Hm.out
        rw [List.take_of_length_le (by have := HN.out.1; have := HNN.out; omega)] at h1
        have h2 := HS.out; have h3 := HN.out.1; have h4 := HLN.out
        omega)
      go_wp2_with fail
      go_ret
      exact ⟨by rw [HE.out]; rfl, HW4.out⟩
end Go.Proofs.Ytpfgjagpaddcpaa.Own

/-! What the bound on an input's bulk gives: how many rings, and points. -/
namespace Go.Proofs.Ytpfgjagpaddcpaa.Own
open Go.Proofs.Ytpfgjagpaddcpaa.X
set_option linter.unusedVariables false

theorem bulk_one {H : Type} (d : DataW H) : 1 ≤ Rows.uptoBulk d := by
  cases d with
  | lit l => cases l <;> simp [Rows.uptoBulk]
  | nil => simp [Rows.uptoBulk]
  | ptr d => simp [Rows.uptoBulk]
  | slice elems spare => simp [Rows.uptoBulk]
  | agg parts => simp [Rows.uptoBulk]
  | iface t d => simp [Rows.uptoBulk]
  | map entries => simp [Rows.uptoBulk]
  | held h => simp [Rows.uptoBulk]
theorem bulk_len {H : Type} (l : List (DataW H)) : l.length ≤ Rows.uptoBulkAll l := by
  induction l with
  | nil => simp [Rows.uptoBulkAll]
  | cons x r ih => have := bulk_one x; simp only [Rows.uptoBulkAll, List.length_cons]; omega
theorem bulk_rows {H : Type} : ∀ (el : List (DataW H)) (l : List (List S23)), el.length = l.length → (∀ (i : Nat) (d : DataW H) (r : List S23), el[i]? = some d → l[i]? = some r → (r = [] ∨ ∃ el2 es2, d = .slice el2 es2 ∧ el2.length = r.length)) → l.length + sumL l ≤ Rows.uptoBulkAll el
  | [], [], _, _ => by simp [sumL]
  | [], _ :: _, h, _ => by simp at h
  | _ :: _, [], h, _ => by simp at h
  | d :: el, r :: l, h, hi => by
    have h1 := bulk_rows el l (by simpa using h) (fun i d' r' hd hr => hi (i + 1) d' r' (by simpa using hd) (by simpa using hr))
    have h2 : 1 + r.length ≤ Rows.uptoBulk d := by
      rcases hi 0 d r rfl rfl with rfl | ⟨el2, es2, rfl, h2⟩
      · have := bulk_one d; simp; omega
      · have := bulk_len el2; simp only [Rows.uptoBulk]; omega
    have hs : sumL (r :: l) = r.length + sumL l := by simp [sumL]
    simp only [Rows.uptoBulkAll, List.length_cons, hs]
    omega
theorem bulk_data {H : Type} {d : DataW H} {l : List (List S23)} (h : RowsData d l) : l.length + sumL l ≤ Rows.uptoBulk d := by
  rcases h with rfl | ⟨el, es, rfl, h1, h2⟩
  · simp [sumL]
  · have := bulk_rows el l h1 h2
    simp only [Rows.uptoBulk]
    omega
theorem bulk_job {H : Type} {d : DataW H} {la lb : List (List S23)} (h : ∃ d1 d2 ds, d = .agg (d1 :: d2 :: ds) ∧ RowsData d1 la ∧ RowsData d2 lb) : la.length + sumL la + (lb.length + sumL lb) ≤ Rows.uptoBulk d := by
  obtain ⟨d1, d2, ds, rfl, h1, h2⟩ := h
  have k1 := bulk_data h1
  have k2 := bulk_data h2
  simp only [Rows.uptoBulk, Rows.uptoBulkAll]
  omega
theorem bulk_bound {H : Type} {l : List (DataW H)} (hk : Rows.uptoSmall H l = true) : Rows.uptoBulkAll l ≤ 1048576 := of_decide_eq_true hk
theorem bulk_all2 {H : Type} (d : DataW H) (l : List (DataW H)) : Rows.uptoBulkAll (d :: l) = Rows.uptoBulk d + Rows.uptoBulkAll l := rfl
theorem bulk_app {H : Type} (a b : List (DataW H)) : Rows.uptoBulkAll a ≤ Rows.uptoBulkAll (a ++ b) := by
  induction a with
  | nil => simp [Rows.uptoBulkAll]
  | cons x a ih => simp only [List.cons_append, Rows.uptoBulkAll]; omega
end Go.Proofs.Ytpfgjagpaddcpaa.Own
