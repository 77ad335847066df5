import Derived.Test.YtpfgjagpaddcpaaBa1
import Derived.ProofKit
import Derived.OpenShut
import Derived.ChangeOld
import Derived.SizedLaws
import Derived.Deep.Slices
/-! Texts that this law leans on, put together by a program of this session: X4 X5 X6 R0 R1 R2 A1 A2 A3 E1 Wd1 Q0. -/
-- Printed by the kit's print.py for this seat (all laws in one set), called by this session.
namespace Go.Proofs.Ytpfgjagpaddcpaa.X
open Go.RowKit Go.Proofs.YtpfgjagpaddcpaaW.PrintWords Go.Proofs.YtpfgjagpaddcpaaW.PrintLast Go.Proofs.YtpfgjagpaddcpaaW.PrintMore
attribute [local go_sem] max2_int min2_int max_two min_two max_three min_three max_four min_four
set_option linter.unusedVariables false
set_option linter.unusedSimpArgs false

attribute [local go_sem high] eqA23
/-! ### plane_Meet: function 40 -/
/-! ### cmp_Or_int: function 58 -/
/-! ### plane_Cmp: function 41 -/
-- NOT PRINTED: function 72 (api_Point_72)

-- NOT PRINTED: function 60 (api_Point_60)

-- NOT PRINTED: function 42 (plane_Area)

/-! ### api_Point_61: function 61 -/
/-! ### plane_Equal: function 44 -/
-- NOT PRINTED: function 19 (cobweblaw04_alive)

/-! ### cobwebref04_Right: function 21 -/
def cobwebref04_Right.f (a0_0 : Int) (a0_1 : Int) : Option (Bool) := if a0_0 ≤ 536870912 then (if a0_1 ≤ 536870912 then (if a0_0 ≥ (-536870912) then (some (decide (a0_1 ≥ (-536870912)))) else (some false)) else (some false)) else (some false)
set_option maxHeartbeats 8000000 in
set_option maxRecDepth 100000 in
theorem cobwebref04_Right.calls (a0_0 : Int) (a0_1 : Int) (r : Bool) (w : World) (h : cobwebref04_Right.f a0_0 a0_1 = some r) :
    Calls Try.prog 21 #[.agg #[.int .i64 a0_0, .int .i64 a0_1]] w fun e w' => e = .returned (.bool r) ∧ Below w.heap.size w w' := by
  have hu23 := Try.underlying23
  have HB := Aside0.mk (Below.refl w.heap.size w)
  have H : (if a0_0 ≤ 536870912 then (if a0_1 ≤ 536870912 then (if a0_0 ≥ (-536870912) then (some (decide (a0_1 ≥ (-536870912)))) else (some false)) else (some false)) else (some false)) = some r := h
  clear h
  by_cases c2 : a0_0 ≤ 536870912
  · rw [if_pos c2] at H
    have c2b0 : decide (a0_0 ≤ 536870912) = true := decide_eq_true c2
    clear c2
    by_cases c3 : a0_1 ≤ 536870912
    · rw [if_pos c3] at H
      have c3b0 : decide (a0_1 ≤ 536870912) = true := decide_eq_true c3
      clear c3
      by_cases c4 : a0_0 ≥ (-536870912)
      · rw [if_pos c4] at H
        have c4b0 : decide ((-536870912) ≤ a0_0) = true := decide_eq_true c4
        clear c4
        obtain rfl := Option.some.inj H
        go_enter Try.func21, Try.ntmps21
        go_wp2_with (first | ((with_reducible refine gate_dst (N := 1) rfl ?_); refine box_event ?hg (N := 1) ?hd (cs := #[.int .i64 a0_0, .int .i64 a0_1]) (t := 23) ?hr ?_; (case hd => rfl); (case hg => rfl); (case hr => first | (go_simp; done) | (go_simp; rfl)); intro gb164 hg w5 hbox hb; have n0_ := Aside0.mk (below_step (by repeat (first | (with_reducible first | exact HB.out | apply below_alloc | apply pw_below_drewN | apply below_drew1) | exact HB.out)) hb); have n1_ := Aside0.mk (hbox); have n2_ := Aside0.mk ((by rw [hg]; exact (below_size (by repeat (first | (with_reducible first | exact HB.out | apply below_alloc | apply pw_below_drewN | apply below_drew1) | exact HB.out))) : w.heap.size ≤ gb164)); have n3_ := Aside0.mk ((by rw [hg]; exact (below_size (by repeat (first | (with_reducible first | exact HB.out | apply below_alloc | apply pw_below_drewN | apply below_drew1) | exact HB.out))) : w.heap.size ≤ gb164)); clear HB; have HB := n0_; have BK164 := n1_; have GW164 := n2_; have GE164 := n3_; clear n0_ n1_ n2_ n3_; clear hb hbox hg; have hcz6_0 : w5.cell? ⟨gb164, 0, none⟩ = some (.int .i64 a0_0) := (blk_cell BK164.out 0).trans rfl; have hcz6_1 : w5.cell? ⟨gb164, 1, none⟩ = some (.int .i64 a0_1) := (blk_cell BK164.out 1).trans rfl; have hfz6_0 := blk_frozen BK164.out 0; have hfz6_1 := blk_frozen BK164.out 1))
        go_ret
        exact ⟨by first | rfl | (simp [errW_none, errW_some] <;> rfl) | (simp [*, errW_none, errW_some] <;> rfl), by repeat (first | (with_reducible first | exact HB.out | apply below_alloc | apply pw_below_drewN | apply below_drew1 | refine below_set ?_ GE164.out) | exact HB.out)⟩
      · rw [if_neg c4] at H
        have c4b0 : decide ((-536870912) ≤ a0_0) = false := decide_eq_false c4
        clear c4
        obtain rfl := Option.some.inj H
        go_enter Try.func21, Try.ntmps21
        go_wp2_with (first | ((with_reducible refine gate_dst (N := 1) rfl ?_); refine box_event ?hg (N := 1) ?hd (cs := #[.int .i64 a0_0, .int .i64 a0_1]) (t := 23) ?hr ?_; (case hd => rfl); (case hg => rfl); (case hr => first | (go_simp; done) | (go_simp; rfl)); intro gb164 hg w7 hbox hb; have n0_ := Aside0.mk (below_step (by repeat (first | (with_reducible first | exact HB.out | apply below_alloc | apply pw_below_drewN | apply below_drew1) | exact HB.out)) hb); have n1_ := Aside0.mk (hbox); have n2_ := Aside0.mk ((by rw [hg]; exact (below_size (by repeat (first | (with_reducible first | exact HB.out | apply below_alloc | apply pw_below_drewN | apply below_drew1) | exact HB.out))) : w.heap.size ≤ gb164)); have n3_ := Aside0.mk ((by rw [hg]; exact (below_size (by repeat (first | (with_reducible first | exact HB.out | apply below_alloc | apply pw_below_drewN | apply below_drew1) | exact HB.out))) : w.heap.size ≤ gb164)); clear HB; have HB := n0_; have BK164 := n1_; have GW164 := n2_; have GE164 := n3_; clear n0_ n1_ n2_ n3_; clear hb hbox hg; have hcz8_0 : w7.cell? ⟨gb164, 0, none⟩ = some (.int .i64 a0_0) := (blk_cell BK164.out 0).trans rfl; have hcz8_1 : w7.cell? ⟨gb164, 1, none⟩ = some (.int .i64 a0_1) := (blk_cell BK164.out 1).trans rfl; have hfz8_0 := blk_frozen BK164.out 0; have hfz8_1 := blk_frozen BK164.out 1))
        go_ret
        exact ⟨by first | rfl | (simp [errW_none, errW_some] <;> rfl) | (simp [*, errW_none, errW_some] <;> rfl), by repeat (first | (with_reducible first | exact HB.out | apply below_alloc | apply pw_below_drewN | apply below_drew1 | refine below_set ?_ GE164.out) | exact HB.out)⟩
    · rw [if_neg c3] at H
      have c3b0 : decide (a0_1 ≤ 536870912) = false := decide_eq_false c3
      clear c3
      obtain rfl := Option.some.inj H
      go_enter Try.func21, Try.ntmps21
      go_wp2_with (first | ((with_reducible refine gate_dst (N := 1) rfl ?_); refine box_event ?hg (N := 1) ?hd (cs := #[.int .i64 a0_0, .int .i64 a0_1]) (t := 23) ?hr ?_; (case hd => rfl); (case hg => rfl); (case hr => first | (go_simp; done) | (go_simp; rfl)); intro gb164 hg w9 hbox hb; have n0_ := Aside0.mk (below_step (by repeat (first | (with_reducible first | exact HB.out | apply below_alloc | apply pw_below_drewN | apply below_drew1) | exact HB.out)) hb); have n1_ := Aside0.mk (hbox); have n2_ := Aside0.mk ((by rw [hg]; exact (below_size (by repeat (first | (with_reducible first | exact HB.out | apply below_alloc | apply pw_below_drewN | apply below_drew1) | exact HB.out))) : w.heap.size ≤ gb164)); have n3_ := Aside0.mk ((by rw [hg]; exact (below_size (by repeat (first | (with_reducible first | exact HB.out | apply below_alloc | apply pw_below_drewN | apply below_drew1) | exact HB.out))) : w.heap.size ≤ gb164)); clear HB; have HB := n0_; have BK164 := n1_; have GW164 := n2_; have GE164 := n3_; clear n0_ n1_ n2_ n3_; clear hb hbox hg; have hcz10_0 : w9.cell? ⟨gb164, 0, none⟩ = some (.int .i64 a0_0) := (blk_cell BK164.out 0).trans rfl; have hcz10_1 : w9.cell? ⟨gb164, 1, none⟩ = some (.int .i64 a0_1) := (blk_cell BK164.out 1).trans rfl; have hfz10_0 := blk_frozen BK164.out 0; have hfz10_1 := blk_frozen BK164.out 1))
      go_ret
      exact ⟨by first | rfl | (simp [errW_none, errW_some] <;> rfl) | (simp [*, errW_none, errW_some] <;> rfl), by repeat (first | (with_reducible first | exact HB.out | apply below_alloc | apply pw_below_drewN | apply below_drew1 | refine below_set ?_ GE164.out) | exact HB.out)⟩
  · rw [if_neg c2] at H
    have c2b0 : decide (a0_0 ≤ 536870912) = false := decide_eq_false c2
    clear c2
    obtain rfl := Option.some.inj H
    go_enter Try.func21, Try.ntmps21
    go_wp2_with (first | ((with_reducible refine gate_dst (N := 1) rfl ?_); refine box_event ?hg (N := 1) ?hd (cs := #[.int .i64 a0_0, .int .i64 a0_1]) (t := 23) ?hr ?_; (case hd => rfl); (case hg => rfl); (case hr => first | (go_simp; done) | (go_simp; rfl)); intro gb164 hg w11 hbox hb; have n0_ := Aside0.mk (below_step (by repeat (first | (with_reducible first | exact HB.out | apply below_alloc | apply pw_below_drewN | apply below_drew1) | exact HB.out)) hb); have n1_ := Aside0.mk (hbox); have n2_ := Aside0.mk ((by rw [hg]; exact (below_size (by repeat (first | (with_reducible first | exact HB.out | apply below_alloc | apply pw_below_drewN | apply below_drew1) | exact HB.out))) : w.heap.size ≤ gb164)); have n3_ := Aside0.mk ((by rw [hg]; exact (below_size (by repeat (first | (with_reducible first | exact HB.out | apply below_alloc | apply pw_below_drewN | apply below_drew1) | exact HB.out))) : w.heap.size ≤ gb164)); clear HB; have HB := n0_; have BK164 := n1_; have GW164 := n2_; have GE164 := n3_; clear n0_ n1_ n2_ n3_; clear hb hbox hg; have hcz12_0 : w11.cell? ⟨gb164, 0, none⟩ = some (.int .i64 a0_0) := (blk_cell BK164.out 0).trans rfl; have hcz12_1 : w11.cell? ⟨gb164, 1, none⟩ = some (.int .i64 a0_1) := (blk_cell BK164.out 1).trans rfl; have hfz12_0 := blk_frozen BK164.out 0; have hfz12_1 := blk_frozen BK164.out 1))
    go_ret
    exact ⟨by first | rfl | (simp [errW_none, errW_some] <;> rfl) | (simp [*, errW_none, errW_some] <;> rfl), by repeat (first | (with_reducible first | exact HB.out | apply below_alloc | apply pw_below_drewN | apply below_drew1 | refine below_set ?_ GE164.out) | exact HB.out)⟩

/-! ### cobwebref04_det: function 53 -/
end Go.Proofs.Ytpfgjagpaddcpaa.X

-- Printed by the kit's print.py for this seat (all laws in one set), called by this session.
namespace Go.Proofs.Ytpfgjagpaddcpaa.X
open Go.RowKit Go.Proofs.YtpfgjagpaddcpaaW.PrintWords Go.Proofs.YtpfgjagpaddcpaaW.PrintLast Go.Proofs.YtpfgjagpaddcpaaW.PrintMore
attribute [local go_sem] max2_int min2_int max_two min_two max_three min_three max_four min_four
set_option linter.unusedVariables false
set_option linter.unusedSimpArgs false

/-! ### cobwebref04_Cross: function 22 -/
/-! ### cobwebref04_Sign: function 24 -/
-- NOT PRINTED: function 3 (cobweblaw04_PlaneTurns)

/-! ### cobweblaw04_near: function 25 -/
-- NOT PRINTED: function 4 (cobweblaw04_PlaneOrder)

/-! ### cobwebref04_between: function 55 -/
/-! ### cobwebref04_On: function 27 -/
-- NOT PRINTED: function 5 (cobweblaw04_PlaneOn)

/-! ### cobwebref11_Fills: function 30 -/
def cobwebref11_Fills.f (a0 : Int) (a1 : Int) : Option (Bool) := if a0 = 0 then (if (Int.tmod a1 2) = 1 then (some true) else (some ((Int.tmod a1 2) == (-1)))) else (if a0 = 1 then (some (a1 != 0)) else (some false))
set_option maxHeartbeats 8000000 in
set_option maxRecDepth 100000 in
theorem cobwebref11_Fills.calls (a0 : Int) (a1 : Int) (r : Bool) (w : World) (h : cobwebref11_Fills.f a0 a1 = some r) :
    Calls Try.prog 30 #[.int .i64 a0, .int .i64 a1] w fun e w' => e = .returned (.bool r) ∧ Drawn0 w w' := by
  have H : (if a0 = 0 then (if (Int.tmod a1 2) = 1 then (some true) else (some ((Int.tmod a1 2) == (-1)))) else (if a0 = 1 then (some (a1 != 0)) else (some false))) = some r := h
  clear h
  by_cases c3 : a0 = 0
  · rw [if_pos c3] at H
    have c3b0 : (a0 == 0) = true := beq_iff_eq.mpr c3
    have c3b1 : (a0 != 0) = false := bne_eq_false_iff_eq.mpr c3
    clear c3
    by_cases c4 : (Int.tmod a1 2) = 1
    · rw [if_pos c4] at H
      have c4b0 : ((Int.tmod a1 2) == 1) = true := beq_iff_eq.mpr c4
      have c4b1 : ((Int.tmod a1 2) != 1) = false := bne_eq_false_iff_eq.mpr c4
      clear c4
      obtain rfl := Option.some.inj H
      go_enter Try.func30, Try.ntmps30
      go_wp2
      go_ret
      exact ⟨by first | rfl | (simp; done) | (simp [*]; done), by repeat (first | exact Drawn0.refl _ | apply Drawn0.step)⟩
    · rw [if_neg c4] at H
      have c4b0 : ((Int.tmod a1 2) == 1) = false := beq_eq_false_iff_ne.mpr c4
      have c4b1 : ((Int.tmod a1 2) != 1) = true := bne_iff_ne.mpr c4
      obtain rfl := Option.some.inj H
      go_enter Try.func30, Try.ntmps30
      go_wp2
      go_ret
      exact ⟨by first | rfl | (simp; done) | (simp [*]; done), by repeat (first | exact Drawn0.refl _ | apply Drawn0.step)⟩
  · rw [if_neg c3] at H
    have c3b0 : (a0 == 0) = false := beq_eq_false_iff_ne.mpr c3
    have c3b1 : (a0 != 0) = true := bne_iff_ne.mpr c3
    by_cases c5 : a0 = 1
    · rw [if_pos c5] at H
      have c5b0 : (a0 == 1) = true := beq_iff_eq.mpr c5
      have c5b1 : (a0 != 1) = false := bne_eq_false_iff_eq.mpr c5
      clear c5
      obtain rfl := Option.some.inj H
      go_enter Try.func30, Try.ntmps30
      go_wp2
      go_ret
      exact ⟨by first | rfl | (simp; done) | (simp [*]; done), by repeat (first | exact Drawn0.refl _ | apply Drawn0.step)⟩
    · rw [if_neg c5] at H
      have c5b0 : (a0 == 1) = false := beq_eq_false_iff_ne.mpr c5
      have c5b1 : (a0 != 1) = true := bne_iff_ne.mpr c5
      obtain rfl := Option.some.inj H
      go_enter Try.func30, Try.ntmps30
      go_wp2
      go_ret
      exact ⟨by first | rfl | (simp; done) | (simp [*]; done), by repeat (first | exact Drawn0.refl _ | apply Drawn0.step)⟩

/-! ### input_Fills: function 32 -/
def input_Fills.f (a0 : Int) (a1 : Int) : Option (Bool) := if a0 = 0 then (if (Int.tmod a1 2) = 0 then (if a0 = 1 then (some (a1 != 0)) else (some false)) else (some true)) else (if a0 = 1 then (some (a1 != 0)) else (some false))
set_option maxHeartbeats 8000000 in
set_option maxRecDepth 100000 in
theorem input_Fills.calls (a0 : Int) (a1 : Int) (r : Bool) (w : World) (h : input_Fills.f a0 a1 = some r) :
    Calls Try.prog 32 #[.int .i64 a0, .int .i64 a1] w fun e w' => e = .returned (.bool r) ∧ Drawn0 w w' := by
  have H : (if a0 = 0 then (if (Int.tmod a1 2) = 0 then (if a0 = 1 then (some (a1 != 0)) else (some false)) else (some true)) else (if a0 = 1 then (some (a1 != 0)) else (some false))) = some r := h
  clear h
  by_cases c3 : a0 = 0
  · rw [if_pos c3] at H
    have c3b0 : (a0 == 0) = true := beq_iff_eq.mpr c3
    have c3b1 : (a0 != 0) = false := bne_eq_false_iff_eq.mpr c3
    clear c3
    by_cases c4 : (Int.tmod a1 2) = 0
    · rw [if_pos c4] at H
      have c4b0 : ((Int.tmod a1 2) == 0) = true := beq_iff_eq.mpr c4
      have c4b1 : ((Int.tmod a1 2) != 0) = false := bne_eq_false_iff_eq.mpr c4
      clear c4
      by_cases c5 : a0 = 1
      · rw [if_pos c5] at H
        have c5b0 : (a0 == 1) = true := beq_iff_eq.mpr c5
        have c5b1 : (a0 != 1) = false := bne_eq_false_iff_eq.mpr c5
        clear c5
        obtain rfl := Option.some.inj H
        go_enter Try.func32, Try.ntmps32
        go_wp2
        go_ret
        exact ⟨by first | rfl | (simp; done) | (simp [*]; done), by repeat (first | exact Drawn0.refl _ | apply Drawn0.step)⟩
      · rw [if_neg c5] at H
        have c5b0 : (a0 == 1) = false := beq_eq_false_iff_ne.mpr c5
        have c5b1 : (a0 != 1) = true := bne_iff_ne.mpr c5
        obtain rfl := Option.some.inj H
        go_enter Try.func32, Try.ntmps32
        go_wp2
        go_ret
        exact ⟨by first | rfl | (simp; done) | (simp [*]; done), by repeat (first | exact Drawn0.refl _ | apply Drawn0.step)⟩
    · rw [if_neg c4] at H
      have c4b0 : ((Int.tmod a1 2) == 0) = false := beq_eq_false_iff_ne.mpr c4
      have c4b1 : ((Int.tmod a1 2) != 0) = true := bne_iff_ne.mpr c4
      obtain rfl := Option.some.inj H
      go_enter Try.func32, Try.ntmps32
      go_wp2
      go_ret
      exact ⟨by first | rfl | (simp; done) | (simp [*]; done), by repeat (first | exact Drawn0.refl _ | apply Drawn0.step)⟩
  · rw [if_neg c3] at H
    have c3b0 : (a0 == 0) = false := beq_eq_false_iff_ne.mpr c3
    have c3b1 : (a0 != 0) = true := bne_iff_ne.mpr c3
    by_cases c6 : a0 = 1
    · rw [if_pos c6] at H
      have c6b0 : (a0 == 1) = true := beq_iff_eq.mpr c6
      have c6b1 : (a0 != 1) = false := bne_eq_false_iff_eq.mpr c6
      clear c6
      obtain rfl := Option.some.inj H
      go_enter Try.func32, Try.ntmps32
      go_wp2
      go_ret
      exact ⟨by first | rfl | (simp; done) | (simp [*]; done), by repeat (first | exact Drawn0.refl _ | apply Drawn0.step)⟩
    · rw [if_neg c6] at H
      have c6b0 : (a0 == 1) = false := beq_eq_false_iff_ne.mpr c6
      have c6b1 : (a0 != 1) = true := bne_iff_ne.mpr c6
      obtain rfl := Option.some.inj H
      go_enter Try.func32, Try.ntmps32
      go_wp2
      go_ret
      exact ⟨by first | rfl | (simp; done) | (simp [*]; done), by repeat (first | exact Drawn0.refl _ | apply Drawn0.step)⟩

end Go.Proofs.Ytpfgjagpaddcpaa.X

-- Printed by the kit's print.py for this seat (all laws in one set), called by this session.
namespace Go.Proofs.Ytpfgjagpaddcpaa.X
open Go.RowKit Go.Proofs.YtpfgjagpaddcpaaW.PrintWords Go.Proofs.YtpfgjagpaddcpaaW.PrintLast Go.Proofs.YtpfgjagpaddcpaaW.PrintMore
attribute [local go_sem] max2_int min2_int max_two min_two max_three min_three max_four min_four
set_option linter.unusedVariables false
set_option linter.unusedSimpArgs false

/-! ### input_Does: function 33 -/
def input_Does.f (a0 : Int) (a1 : Bool) (a2 : Bool) : Option (Bool) := if a0 = 0 then (if a1 = true then (some true) else (some a2)) else (if a0 = 1 then (if a1 = true then (some a2) else (some false)) else (if a0 = 2 then (if a1 = true then (some (!a2)) else (some false)) else (if a0 = 3 then (some (a1 != a2)) else (some false))))
set_option maxHeartbeats 8000000 in
set_option maxRecDepth 100000 in
theorem input_Does.calls (a0 : Int) (a1 : Bool) (a2 : Bool) (r : Bool) (w : World) (h : input_Does.f a0 a1 a2 = some r) :
    Calls Try.prog 33 #[.int .i64 a0, .bool a1, .bool a2] w fun e w' => e = .returned (.bool r) ∧ Drawn0 w w' := by
  have H : (if a0 = 0 then (if a1 = true then (some true) else (some a2)) else (if a0 = 1 then (if a1 = true then (some a2) else (some false)) else (if a0 = 2 then (if a1 = true then (some (!a2)) else (some false)) else (if a0 = 3 then (some (a1 != a2)) else (some false))))) = some r := h
  clear h
  by_cases c4 : a0 = 0
  · rw [if_pos c4] at H
    have c4b0 : (a0 == 0) = true := beq_iff_eq.mpr c4
    have c4b1 : (a0 != 0) = false := bne_eq_false_iff_eq.mpr c4
    clear c4
    by_cases c5 : a1 = true
    · subst c5
      have H1 : (some true) = some r := by rw [if_pos rfl] at H; exact H
      clear H
      have H := H1
      clear H1
      obtain rfl := Option.some.inj H
      go_enter Try.func33, Try.ntmps33
      go_wp2
      go_ret
      exact ⟨by first | rfl | (simp; done) | (simp [*]; done), by repeat (first | exact Drawn0.refl _ | apply Drawn0.step)⟩
    · replace c5 := Bool.eq_false_iff.mpr c5
      subst c5
      have H1 : (some a2) = some r := by rw [if_neg (show ¬ (false = true) by decide)] at H; exact H
      clear H
      have H := H1
      clear H1
      obtain rfl := Option.some.inj H
      go_enter Try.func33, Try.ntmps33
      go_wp2
      go_ret
      exact ⟨by first | rfl | (simp; done) | (simp [*]; done), by repeat (first | exact Drawn0.refl _ | apply Drawn0.step)⟩
  · rw [if_neg c4] at H
    have c4b0 : (a0 == 0) = false := beq_eq_false_iff_ne.mpr c4
    have c4b1 : (a0 != 0) = true := bne_iff_ne.mpr c4
    by_cases c6 : a0 = 1
    · rw [if_pos c6] at H
      have c6b0 : (a0 == 1) = true := beq_iff_eq.mpr c6
      have c6b1 : (a0 != 1) = false := bne_eq_false_iff_eq.mpr c6
      clear c6
      by_cases c7 : a1 = true
      · subst c7
        have H1 : (some a2) = some r := by rw [if_pos rfl] at H; exact H
        clear H
        have H := H1
        clear H1
        obtain rfl := Option.some.inj H
        go_enter Try.func33, Try.ntmps33
        go_wp2
        go_ret
        exact ⟨by first | rfl | (simp; done) | (simp [*]; done), by repeat (first | exact Drawn0.refl _ | apply Drawn0.step)⟩
      · replace c7 := Bool.eq_false_iff.mpr c7
        subst c7
        have H1 : (some false) = some r := by rw [if_neg (show ¬ (false = true) by decide)] at H; exact H
        clear H
        have H := H1
        clear H1
        obtain rfl := Option.some.inj H
        go_enter Try.func33, Try.ntmps33
        go_wp2
        go_ret
        exact ⟨by first | rfl | (simp; done) | (simp [*]; done), by repeat (first | exact Drawn0.refl _ | apply Drawn0.step)⟩
    · rw [if_neg c6] at H
      have c6b0 : (a0 == 1) = false := beq_eq_false_iff_ne.mpr c6
      have c6b1 : (a0 != 1) = true := bne_iff_ne.mpr c6
      by_cases c8 : a0 = 2
      · rw [if_pos c8] at H
        have c8b0 : (a0 == 2) = true := beq_iff_eq.mpr c8
        have c8b1 : (a0 != 2) = false := bne_eq_false_iff_eq.mpr c8
        clear c8
        by_cases c9 : a1 = true
        · subst c9
          have H1 : (some (!a2)) = some r := by rw [if_pos rfl] at H; exact H
          clear H
          have H := H1
          clear H1
          obtain rfl := Option.some.inj H
          go_enter Try.func33, Try.ntmps33
          go_wp2
          go_ret
          exact ⟨by first | rfl | (simp; done) | (simp [*]; done), by repeat (first | exact Drawn0.refl _ | apply Drawn0.step)⟩
        · replace c9 := Bool.eq_false_iff.mpr c9
          subst c9
          have H1 : (some false) = some r := by rw [if_neg (show ¬ (false = true) by decide)] at H; exact H
          clear H
          have H := H1
          clear H1
          obtain rfl := Option.some.inj H
          go_enter Try.func33, Try.ntmps33
          go_wp2
          go_ret
          exact ⟨by first | rfl | (simp; done) | (simp [*]; done), by repeat (first | exact Drawn0.refl _ | apply Drawn0.step)⟩
      · rw [if_neg c8] at H
        have c8b0 : (a0 == 2) = false := beq_eq_false_iff_ne.mpr c8
        have c8b1 : (a0 != 2) = true := bne_iff_ne.mpr c8
        by_cases c10 : a0 = 3
        · rw [if_pos c10] at H
          have c10b0 : (a0 == 3) = true := beq_iff_eq.mpr c10
          have c10b1 : (a0 != 3) = false := bne_eq_false_iff_eq.mpr c10
          clear c10
          obtain rfl := Option.some.inj H
          go_enter Try.func33, Try.ntmps33
          go_wp2
          go_ret
          exact ⟨by first | rfl | (simp; done) | (simp [*]; done), by repeat (first | exact Drawn0.refl _ | apply Drawn0.step)⟩
        · rw [if_neg c10] at H
          have c10b0 : (a0 == 3) = false := beq_eq_false_iff_ne.mpr c10
          have c10b1 : (a0 != 3) = true := bne_iff_ne.mpr c10
          obtain rfl := Option.some.inj H
          go_enter Try.func33, Try.ntmps33
          go_wp2
          go_ret
          exact ⟨by first | rfl | (simp; done) | (simp [*]; done), by repeat (first | exact Drawn0.refl _ | apply Drawn0.step)⟩

/-! ### input_Wants: function 35 -/
def input_Wants.f (l0_0 : List (List (S23))) (l0_1 : List (List (S23))) (a0_2 : Int) (a0_3 : Int) (a0_4 : Int) (a0_5 : Int) (a1 : Int) (a2 : Int) : Option (Bool) := (input_Fills.f a0_3 a1).bind fun t199 => ((input_Fills.f a0_3 a2).bind fun t200 => ((input_Does.f a0_2 t199 t200).bind fun t201 => (some t201)))
set_option maxHeartbeats 8000000 in
set_option maxRecDepth 100000 in
theorem input_Wants.calls (A0_0 : Option Addr) (c0_0 : Nat) (l0_0 : List (List (S23))) (A0_1 : Option Addr) (c0_1 : Nat) (l0_1 : List (List (S23))) (a0_2 : Int) (a0_3 : Int) (a0_4 : Int) (a0_5 : Int) (a1 : Int) (a2 : Int) (r : Bool) (w : World) (hr0_0 : Kd.C (Kd.slice 23 k23) w A0_0 l0_0.length l0_0) (hc0_0 : l0_0.length ≤ c0_0) (hr0_1 : Kd.C (Kd.slice 23 k23) w A0_1 l0_1.length l0_1) (hc0_1 : l0_1.length ≤ c0_1) (h : input_Wants.f l0_0 l0_1 a0_2 a0_3 a0_4 a0_5 a1 a2 = some r) :
    Calls Try.prog 35 #[.agg #[.slice A0_0 l0_0.length c0_0, .slice A0_1 l0_1.length c0_1, .int .i64 a0_2, .int .i64 a0_3, .int .i64 a0_4, .int .i64 a0_5], .int .i64 a1, .int .i64 a2] w fun e w' => e = .returned (.bool r) ∧ Below w.heap.size w w' := by
  have hu41 := Try.underlying41
  have HR0_0 := Aside0.mk hr0_0
  have HC0_0 := Aside0.mk hc0_0
  clear hr0_0 hc0_0
  have HR0_1 := Aside0.mk hr0_1
  have HC0_1 := Aside0.mk hc0_1
  clear hr0_1 hc0_1
  have HB := Aside0.mk (Below.refl w.heap.size w)
  have H : ((input_Fills.f a0_3 a1).bind fun t199 => ((input_Fills.f a0_3 a2).bind fun t200 => ((input_Does.f a0_2 t199 t200).bind fun t201 => (some t201)))) = some r := h
  clear h
  replace H := Option.bind_eq_some_iff.mp H
  obtain ⟨t199, A40, H⟩ := H
  replace H : ((input_Fills.f a0_3 a2).bind fun t200 => ((input_Does.f a0_2 t199 t200).bind fun t201 => (some t201))) = some r := H
  have A4 := Aside0.mk A40
  clear A40
  replace H := Option.bind_eq_some_iff.mp H
  obtain ⟨t200, A50, H⟩ := H
  replace H : ((input_Does.f a0_2 t199 t200).bind fun t201 => (some t201)) = some r := H
  have A5 := Aside0.mk A50
  clear A50
  replace H := Option.bind_eq_some_iff.mp H
  obtain ⟨t201, A60, H⟩ := H
  replace H : (some t201) = some r := H
  have A6 := Aside0.mk A60
  clear A60
  obtain rfl := Option.some.inj H
  go_enter Try.func35, Try.ntmps35
  go_wp2_with (first | ((with_reducible refine gate_dst (N := 3) rfl ?_); refine box_event ?hg (N := 3) ?hd (cs := #[.slice A0_0 l0_0.length c0_0, .slice A0_1 l0_1.length c0_1, .int .i64 a0_2, .int .i64 a0_3, .int .i64 a0_4, .int .i64 a0_5]) (t := 41) ?hr ?_; (case hd => rfl); (case hg => rfl); (case hr => first | (go_simp; done) | (go_simp; rfl)); intro gb198 hg w7 hbox hb; have n0_ := Aside0.mk (below_step (by repeat (first | (with_reducible first | exact HB.out | apply below_alloc | apply pw_below_drewN | apply below_drew1) | exact HB.out)) hb); have n1_ := Aside0.mk (hbox); have n2_ := Aside0.mk ((by rw [hg]; exact (below_size (by repeat (first | (with_reducible first | exact HB.out | apply below_alloc | apply pw_below_drewN | apply below_drew1) | exact HB.out))) : w.heap.size ≤ gb198)); have n3_ := Aside0.mk ((by rw [hg]; exact (below_size (by repeat (first | (with_reducible first | exact HB.out | apply below_alloc | apply pw_below_drewN | apply below_drew1) | exact HB.out))) : w.heap.size ≤ gb198)); clear HB; have HB := n0_; have BK198 := n1_; have GW198 := n2_; have GE198 := n3_; clear n0_ n1_ n2_ n3_; clear hb hbox hg; have hcz8_0 : w7.cell? ⟨gb198, 0, none⟩ = some (.slice A0_0 l0_0.length c0_0) := (blk_cell BK198.out 0).trans rfl; have hcz8_1 : w7.cell? ⟨gb198, 1, none⟩ = some (.slice A0_1 l0_1.length c0_1) := (blk_cell BK198.out 1).trans rfl; have hcz8_2 : w7.cell? ⟨gb198, 2, none⟩ = some (.int .i64 a0_2) := (blk_cell BK198.out 2).trans rfl; have hcz8_3 : w7.cell? ⟨gb198, 3, none⟩ = some (.int .i64 a0_3) := (blk_cell BK198.out 3).trans rfl; have hcz8_4 : w7.cell? ⟨gb198, 4, none⟩ = some (.int .i64 a0_4) := (blk_cell BK198.out 4).trans rfl; have hcz8_5 : w7.cell? ⟨gb198, 5, none⟩ = some (.int .i64 a0_5) := (blk_cell BK198.out 5).trans rfl; have hfz8_0 := blk_frozen BK198.out 0; have hfz8_1 := blk_frozen BK198.out 1; have hfz8_2 := blk_frozen BK198.out 2; have hfz8_3 := blk_frozen BK198.out 3; have hfz8_4 := blk_frozen BK198.out 4; have hfz8_5 := blk_frozen BK198.out 5) | (go_at_call 32; (with_reducible refine (input_Fills.calls a0_3 a1 t199 _ A4.out).mono ?_); rintro e w' ⟨rfl, ⟨nd, rfl⟩⟩; (try first | exact ⟨rfl, _, World.drewN_drewN _ _ _⟩ | exact ⟨rfl, _, Eq.trans (World.drewN_drewN _ _ _) (congrArg (World.drewN _) (Nat.add_assoc _ _ _))⟩)) | (go_at_call 32; (with_reducible refine (input_Fills.calls a0_3 a2 t200 _ A5.out).mono ?_); rintro e w' ⟨rfl, ⟨nd, rfl⟩⟩; (try first | exact ⟨rfl, _, World.drewN_drewN _ _ _⟩ | exact ⟨rfl, _, Eq.trans (World.drewN_drewN _ _ _) (congrArg (World.drewN _) (Nat.add_assoc _ _ _))⟩)) | (go_at_call 33; (with_reducible refine (input_Does.calls a0_2 t199 t200 t201 _ A6.out).mono ?_); rintro e w' ⟨rfl, ⟨nd, rfl⟩⟩; (try first | exact ⟨rfl, _, World.drewN_drewN _ _ _⟩ | exact ⟨rfl, _, Eq.trans (World.drewN_drewN _ _ _) (congrArg (World.drewN _) (Nat.add_assoc _ _ _))⟩)))
  repeat (go_quiet (first | ((with_reducible refine gate_dst (N := 3) rfl ?_); refine box_event ?hg (N := 3) ?hd (cs := #[.slice A0_0 l0_0.length c0_0, .slice A0_1 l0_1.length c0_1, .int .i64 a0_2, .int .i64 a0_3, .int .i64 a0_4, .int .i64 a0_5]) (t := 41) ?hr ?_; (case hd => rfl); (case hg => rfl); (case hr => first | (go_simp; done) | (go_simp; rfl)); intro gb198 hg w7 hbox hb; have n0_ := Aside0.mk (below_step (by repeat (first | (with_reducible first | exact HB.out | apply below_alloc | apply pw_below_drewN | apply below_drew1) | exact HB.out)) hb); have n1_ := Aside0.mk (hbox); have n2_ := Aside0.mk ((by rw [hg]; exact (below_size (by repeat (first | (with_reducible first | exact HB.out | apply below_alloc | apply pw_below_drewN | apply below_drew1) | exact HB.out))) : w.heap.size ≤ gb198)); have n3_ := Aside0.mk ((by rw [hg]; exact (below_size (by repeat (first | (with_reducible first | exact HB.out | apply below_alloc | apply pw_below_drewN | apply below_drew1) | exact HB.out))) : w.heap.size ≤ gb198)); clear HB; have HB := n0_; have BK198 := n1_; have GW198 := n2_; have GE198 := n3_; clear n0_ n1_ n2_ n3_; clear hb hbox hg; have hcz8_0 : w7.cell? ⟨gb198, 0, none⟩ = some (.slice A0_0 l0_0.length c0_0) := (blk_cell BK198.out 0).trans rfl; have hcz8_1 : w7.cell? ⟨gb198, 1, none⟩ = some (.slice A0_1 l0_1.length c0_1) := (blk_cell BK198.out 1).trans rfl; have hcz8_2 : w7.cell? ⟨gb198, 2, none⟩ = some (.int .i64 a0_2) := (blk_cell BK198.out 2).trans rfl; have hcz8_3 : w7.cell? ⟨gb198, 3, none⟩ = some (.int .i64 a0_3) := (blk_cell BK198.out 3).trans rfl; have hcz8_4 : w7.cell? ⟨gb198, 4, none⟩ = some (.int .i64 a0_4) := (blk_cell BK198.out 4).trans rfl; have hcz8_5 : w7.cell? ⟨gb198, 5, none⟩ = some (.int .i64 a0_5) := (blk_cell BK198.out 5).trans rfl; have hfz8_0 := blk_frozen BK198.out 0; have hfz8_1 := blk_frozen BK198.out 1; have hfz8_2 := blk_frozen BK198.out 2; have hfz8_3 := blk_frozen BK198.out 3; have hfz8_4 := blk_frozen BK198.out 4; have hfz8_5 := blk_frozen BK198.out 5) | (go_at_call 32; (with_reducible refine (input_Fills.calls a0_3 a1 t199 _ A4.out).mono ?_); rintro e w' ⟨rfl, ⟨nd, rfl⟩⟩; (try first | exact ⟨rfl, _, World.drewN_drewN _ _ _⟩ | exact ⟨rfl, _, Eq.trans (World.drewN_drewN _ _ _) (congrArg (World.drewN _) (Nat.add_assoc _ _ _))⟩)) | (go_at_call 32; (with_reducible refine (input_Fills.calls a0_3 a2 t200 _ A5.out).mono ?_); rintro e w' ⟨rfl, ⟨nd, rfl⟩⟩; (try first | exact ⟨rfl, _, World.drewN_drewN _ _ _⟩ | exact ⟨rfl, _, Eq.trans (World.drewN_drewN _ _ _) (congrArg (World.drewN _) (Nat.add_assoc _ _ _))⟩)) | (go_at_call 33; (with_reducible refine (input_Does.calls a0_2 t199 t200 t201 _ A6.out).mono ?_); rintro e w' ⟨rfl, ⟨nd, rfl⟩⟩; (try first | exact ⟨rfl, _, World.drewN_drewN _ _ _⟩ | exact ⟨rfl, _, Eq.trans (World.drewN_drewN _ _ _) (congrArg (World.drewN _) (Nat.add_assoc _ _ _))⟩))); try go_wp2_with (first | ((with_reducible refine gate_dst (N := 3) rfl ?_); refine box_event ?hg (N := 3) ?hd (cs := #[.slice A0_0 l0_0.length c0_0, .slice A0_1 l0_1.length c0_1, .int .i64 a0_2, .int .i64 a0_3, .int .i64 a0_4, .int .i64 a0_5]) (t := 41) ?hr ?_; (case hd => rfl); (case hg => rfl); (case hr => first | (go_simp; done) | (go_simp; rfl)); intro gb198 hg w7 hbox hb; have n0_ := Aside0.mk (below_step (by repeat (first | (with_reducible first | exact HB.out | apply below_alloc | apply pw_below_drewN | apply below_drew1) | exact HB.out)) hb); have n1_ := Aside0.mk (hbox); have n2_ := Aside0.mk ((by rw [hg]; exact (below_size (by repeat (first | (with_reducible first | exact HB.out | apply below_alloc | apply pw_below_drewN | apply below_drew1) | exact HB.out))) : w.heap.size ≤ gb198)); have n3_ := Aside0.mk ((by rw [hg]; exact (below_size (by repeat (first | (with_reducible first | exact HB.out | apply below_alloc | apply pw_below_drewN | apply below_drew1) | exact HB.out))) : w.heap.size ≤ gb198)); clear HB; have HB := n0_; have BK198 := n1_; have GW198 := n2_; have GE198 := n3_; clear n0_ n1_ n2_ n3_; clear hb hbox hg; have hcz8_0 : w7.cell? ⟨gb198, 0, none⟩ = some (.slice A0_0 l0_0.length c0_0) := (blk_cell BK198.out 0).trans rfl; have hcz8_1 : w7.cell? ⟨gb198, 1, none⟩ = some (.slice A0_1 l0_1.length c0_1) := (blk_cell BK198.out 1).trans rfl; have hcz8_2 : w7.cell? ⟨gb198, 2, none⟩ = some (.int .i64 a0_2) := (blk_cell BK198.out 2).trans rfl; have hcz8_3 : w7.cell? ⟨gb198, 3, none⟩ = some (.int .i64 a0_3) := (blk_cell BK198.out 3).trans rfl; have hcz8_4 : w7.cell? ⟨gb198, 4, none⟩ = some (.int .i64 a0_4) := (blk_cell BK198.out 4).trans rfl; have hcz8_5 : w7.cell? ⟨gb198, 5, none⟩ = some (.int .i64 a0_5) := (blk_cell BK198.out 5).trans rfl; have hfz8_0 := blk_frozen BK198.out 0; have hfz8_1 := blk_frozen BK198.out 1; have hfz8_2 := blk_frozen BK198.out 2; have hfz8_3 := blk_frozen BK198.out 3; have hfz8_4 := blk_frozen BK198.out 4; have hfz8_5 := blk_frozen BK198.out 5) | (go_at_call 32; (with_reducible refine (input_Fills.calls a0_3 a1 t199 _ A4.out).mono ?_); rintro e w' ⟨rfl, ⟨nd, rfl⟩⟩; (try first | exact ⟨rfl, _, World.drewN_drewN _ _ _⟩ | exact ⟨rfl, _, Eq.trans (World.drewN_drewN _ _ _) (congrArg (World.drewN _) (Nat.add_assoc _ _ _))⟩)) | (go_at_call 32; (with_reducible refine (input_Fills.calls a0_3 a2 t200 _ A5.out).mono ?_); rintro e w' ⟨rfl, ⟨nd, rfl⟩⟩; (try first | exact ⟨rfl, _, World.drewN_drewN _ _ _⟩ | exact ⟨rfl, _, Eq.trans (World.drewN_drewN _ _ _) (congrArg (World.drewN _) (Nat.add_assoc _ _ _))⟩)) | (go_at_call 33; (with_reducible refine (input_Does.calls a0_2 t199 t200 t201 _ A6.out).mono ?_); rintro e w' ⟨rfl, ⟨nd, rfl⟩⟩; (try first | exact ⟨rfl, _, World.drewN_drewN _ _ _⟩ | exact ⟨rfl, _, Eq.trans (World.drewN_drewN _ _ _) (congrArg (World.drewN _) (Nat.add_assoc _ _ _))⟩))))
  go_ret
  exact ⟨by first | rfl | (simp [errW_none, errW_some] <;> rfl) | (simp [*, errW_none, errW_some] <;> rfl), by repeat (first | (with_reducible first | exact HB.out | apply below_alloc | apply pw_below_drewN | apply below_drew1 | refine below_set ?_ GE198.out) | exact HB.out)⟩

-- NOT PRINTED: function 56 (input_sides)

/-! ### input_twice: function 57 -/
def input_twice.f (a0_0 : Int) (a0_1 : Int) : Option (Int × Int) := (plane_Right.f a0_0 a0_1).bind fun t204 => (if t204 = true then (some (wrap64 (2 * a0_0), wrap64 (2 * a0_1))) else (some (1073741824, 0)))
set_option maxHeartbeats 8000000 in
set_option maxRecDepth 100000 in
theorem input_twice.calls (a0_0 : Int) (a0_1 : Int) (r1 : Int) (r2 : Int) (w : World) (h : input_twice.f a0_0 a0_1 = some (r1, r2)) :
    Calls Try.prog 57 #[.agg #[.int .i64 a0_0, .int .i64 a0_1]] w fun e w' => e = .returned (.agg #[.int .i64 r1, .int .i64 r2]) ∧ Below w.heap.size w w' := by
  have hu23 := Try.underlying23
  have HB := Aside0.mk (Below.refl w.heap.size w)
  have H : ((plane_Right.f a0_0 a0_1).bind fun t204 => (if t204 = true then (some (wrap64 (2 * a0_0), wrap64 (2 * a0_1))) else (some (1073741824, 0)))) = some (r1, r2) := h
  clear h
  replace H := Option.bind_eq_some_iff.mp H
  obtain ⟨t204, A20, H⟩ := H
  replace H : (if t204 = true then (some (wrap64 (2 * a0_0), wrap64 (2 * a0_1))) else (some (1073741824, 0))) = some (r1, r2) := H
  have A2 := Aside0.mk A20
  clear A20
  by_cases c3 : t204 = true
  · subst c3
    have H1 : (some (wrap64 (2 * a0_0), wrap64 (2 * a0_1))) = some (r1, r2) := by rw [if_pos rfl] at H; exact H
    clear H
    have H := H1
    clear H1
    simp only [Option.some.injEq, Prod.mk.injEq] at H
    obtain ⟨rfl, rfl⟩ := H
    go_enter Try.func57, Try.ntmps57
    go_wp2_with (first | ((with_reducible refine gate_dst (N := 1) rfl ?_); refine box_event ?hg (N := 1) ?hd (cs := #[.int .i64 a0_0, .int .i64 a0_1]) (t := 23) ?hr ?_; (case hd => rfl); (case hg => rfl); (case hr => first | (go_simp; done) | (go_simp; rfl)); intro gb202 hg w4 hbox hb; have n0_ := Aside0.mk (below_step (by repeat (first | (with_reducible first | exact HB.out | apply below_alloc | apply pw_below_drewN | apply below_drew1) | exact HB.out)) hb); have n1_ := Aside0.mk (hbox); have n2_ := Aside0.mk ((by rw [hg]; exact (below_size (by repeat (first | (with_reducible first | exact HB.out | apply below_alloc | apply pw_below_drewN | apply below_drew1) | exact HB.out))) : w.heap.size ≤ gb202)); have n3_ := Aside0.mk ((by rw [hg]; exact (below_size (by repeat (first | (with_reducible first | exact HB.out | apply below_alloc | apply pw_below_drewN | apply below_drew1) | exact HB.out))) : w.heap.size ≤ gb202)); clear HB; have HB := n0_; have BK202 := n1_; have GW202 := n2_; have GE202 := n3_; clear n0_ n1_ n2_ n3_; clear hb hbox hg) | ((with_reducible refine gate_dst (N := 2) rfl ?_); refine box_event ?hg (N := 2) ?hd (cs := #[.int .i64 0, .int .i64 0]) (t := 23) ?hr ?_; (case hd => rfl); (case hg => rfl); (case hr => first | (go_simp; done) | (go_simp; rfl)); intro gb203 hg w5 hbox hb; have n0_ := Aside0.mk (blk_below (g := gb202) (o := .cells #[.int .i64 a0_0, .int .i64 a0_1] 23 (0, 0)) (by (with_reducible repeat (first | refine blk_drewN ?_ _ | refine blk_drew ?_ | refine blk_alloc ?_ _)); exact BK202.out) hb); have n1_ := Aside0.mk (below_step (by repeat (first | (with_reducible first | exact HB.out | apply below_alloc | apply pw_below_drewN | apply below_drew1 | refine below_set ?_ GE202.out) | exact HB.out)) hb); have n2_ := Aside0.mk (hbox); have n3_ := Aside0.mk ((by rw [hg]; exact (below_size (by repeat (first | (with_reducible first | exact HB.out | apply below_alloc | apply pw_below_drewN | apply below_drew1 | refine below_set ?_ GE202.out) | exact HB.out))) : w.heap.size ≤ gb203)); have n4_ := Aside0.mk ((by rw [hg]; exact (below_size (by repeat (first | (with_reducible first | exact HB.out | apply below_alloc | apply pw_below_drewN | apply below_drew1 | refine below_set ?_ GE202.out) | exact HB.out))) : w.heap.size ≤ gb203)); have n5_ := Aside0.mk ((by rw [hg]; exact Nat.ne_of_lt (blk_lt (g := gb202) (o := .cells #[.int .i64 a0_0, .int .i64 a0_1] 23 (0, 0)) (by (with_reducible repeat (first | refine blk_drewN ?_ _ | refine blk_drew ?_ | refine blk_alloc ?_ _)); exact BK202.out)) : gb202 ≠ gb203)); have n6_ := Aside0.mk ((by rw [hg]; exact Nat.ne_of_gt (blk_lt (g := gb202) (o := .cells #[.int .i64 a0_0, .int .i64 a0_1] 23 (0, 0)) (by (with_reducible repeat (first | refine blk_drewN ?_ _ | refine blk_drew ?_ | refine blk_alloc ?_ _)); exact BK202.out)) : gb203 ≠ gb202)); clear BK202; clear HB; have BK202 := n0_; have HB := n1_; have BK203 := n2_; have GW203 := n3_; have GE203 := n4_; have NB202_203 := n5_; have NB203_202 := n6_; clear n0_ n1_ n2_ n3_ n4_ n5_ n6_; clear hb hbox hg; have hnb6 := NB202_203.out; have hnc6 := NB203_202.out; have hcz7_0 : w5.cell? ⟨gb202, 0, none⟩ = some (.int .i64 a0_0) := (blk_cell BK202.out 0).trans rfl; have hcz7_1 : w5.cell? ⟨gb202, 1, none⟩ = some (.int .i64 a0_1) := (blk_cell BK202.out 1).trans rfl; have hfz7_0 := blk_frozen BK202.out 0; have hfz7_1 := blk_frozen BK202.out 1) | ((with_reducible refine gate_callee (f := 20) rfl ?_); refine goesL_ (some 4) rfl rfl Try.func20 (by kernel_rfl) rfl #[.agg #[.int .i64 a0_0, .int .i64 a0_1]] rfl (by (try simp only [List.map_toArray, List.map_cons, List.map_nil]); first | done | rfl | (simp only [List.length_drop, List.length_take]; rfl)) ?_; (with_reducible refine (plane_Right.calls a0_0 a0_1 true _ A2.out).mono ?_); rintro e w8 ⟨rfl, hb⟩; refine ⟨_, rfl, ?_⟩; have n0_ := Aside0.mk (blk_below (g := gb202) (o := .cells #[.int .i64 a0_0, .int .i64 a0_1] 23 (0, 0)) (by (with_reducible repeat (first | refine blk_drewN ?_ _ | refine blk_drew ?_ | refine blk_alloc ?_ _)); exact BK202.out) hb); have n1_ := Aside0.mk (blk_below (g := gb203) (o := .cells #[.int .i64 0, .int .i64 0] 23 (0, 0)) (by (with_reducible repeat (first | refine blk_drewN ?_ _ | refine blk_drew ?_ | refine blk_alloc ?_ _)); exact BK203.out) hb); have n2_ := Aside0.mk (below_step (by repeat (first | (with_reducible first | exact HB.out | apply below_alloc | apply pw_below_drewN | apply below_drew1 | refine below_set ?_ GE202.out | refine below_set ?_ GE203.out) | exact HB.out)) hb); clear BK202; clear BK203; clear HB; have BK202 := n0_; have BK203 := n1_; have HB := n2_; clear n0_ n1_ n2_; (try clear hb); (try clear hb2); (try clear hk); (try clear hi); have hcz9_0 : w8.cell? ⟨gb202, 0, none⟩ = some (.int .i64 a0_0) := (blk_cell BK202.out 0).trans rfl; have hcz9_1 : w8.cell? ⟨gb202, 1, none⟩ = some (.int .i64 a0_1) := (blk_cell BK202.out 1).trans rfl; have hfz9_0 := blk_frozen BK202.out 0; have hfz9_1 := blk_frozen BK202.out 1; have hcz10_0 : w8.cell? ⟨gb203, 0, none⟩ = some (.int .i64 0) := (blk_cell BK203.out 0).trans rfl; have hcz10_1 : w8.cell? ⟨gb203, 1, none⟩ = some (.int .i64 0) := (blk_cell BK203.out 1).trans rfl; have hfz10_0 := blk_frozen BK203.out 0; have hfz10_1 := blk_frozen BK203.out 1))
    refine bodyPost_ret (results_cell_row rfl _ _ gb203 23 #[.int .i64 (wrap64 (2 * a0_0)), .int .i64 (wrap64 (2 * a0_1))] (0, 0) _ rfl (by (with_reducible repeat (first | refine blk_drewN ?_ _ | refine blk_drew ?_ | refine blk_alloc ?_ _)); refine blk_put (cs := #[.int .i64 (wrap64 (2 * a0_0)), .int .i64 0]) ?_ 1 _ rfl; (with_reducible repeat (first | refine blk_drewN ?_ _ | refine blk_drew ?_ | refine blk_alloc ?_ _)); refine blk_put (cs := #[.int .i64 0, .int .i64 0]) ?_ 0 _ rfl; (with_reducible repeat (first | refine blk_drewN ?_ _ | refine blk_drew ?_ | refine blk_alloc ?_ _)); exact BK203.out) Try.underlying23 rfl (by kernel_rfl)) rfl ?_
    exact ⟨by first | rfl | (simp [errW_none, errW_some] <;> rfl) | (simp [*, errW_none, errW_some] <;> rfl), by repeat (first | (with_reducible first | exact HB.out | apply below_alloc | apply pw_below_drewN | apply below_drew1 | refine below_set ?_ GE202.out | refine below_set ?_ GE203.out) | exact HB.out)⟩
  · replace c3 := Bool.eq_false_iff.mpr c3
    subst c3
    have H1 : (some (1073741824, 0)) = some (r1, r2) := by rw [if_neg (show ¬ (false = true) by decide)] at H; exact H
    clear H
    have H := H1
    clear H1
    simp only [Option.some.injEq, Prod.mk.injEq] at H
    obtain ⟨rfl, rfl⟩ := H
    go_enter Try.func57, Try.ntmps57
    go_wp2_with (first | ((with_reducible refine gate_dst (N := 1) rfl ?_); refine box_event ?hg (N := 1) ?hd (cs := #[.int .i64 a0_0, .int .i64 a0_1]) (t := 23) ?hr ?_; (case hd => rfl); (case hg => rfl); (case hr => first | (go_simp; done) | (go_simp; rfl)); intro gb202 hg w11 hbox hb; have n0_ := Aside0.mk (below_step (by repeat (first | (with_reducible first | exact HB.out | apply below_alloc | apply pw_below_drewN | apply below_drew1) | exact HB.out)) hb); have n1_ := Aside0.mk (hbox); have n2_ := Aside0.mk ((by rw [hg]; exact (below_size (by repeat (first | (with_reducible first | exact HB.out | apply below_alloc | apply pw_below_drewN | apply below_drew1) | exact HB.out))) : w.heap.size ≤ gb202)); have n3_ := Aside0.mk ((by rw [hg]; exact (below_size (by repeat (first | (with_reducible first | exact HB.out | apply below_alloc | apply pw_below_drewN | apply below_drew1) | exact HB.out))) : w.heap.size ≤ gb202)); clear HB; have HB := n0_; have BK202 := n1_; have GW202 := n2_; have GE202 := n3_; clear n0_ n1_ n2_ n3_; clear hb hbox hg) | ((with_reducible refine gate_dst (N := 2) rfl ?_); refine box_event ?hg (N := 2) ?hd (cs := #[.int .i64 0, .int .i64 0]) (t := 23) ?hr ?_; (case hd => rfl); (case hg => rfl); (case hr => first | (go_simp; done) | (go_simp; rfl)); intro gb203 hg w12 hbox hb; have n0_ := Aside0.mk (blk_below (g := gb202) (o := .cells #[.int .i64 a0_0, .int .i64 a0_1] 23 (0, 0)) (by (with_reducible repeat (first | refine blk_drewN ?_ _ | refine blk_drew ?_ | refine blk_alloc ?_ _)); exact BK202.out) hb); have n1_ := Aside0.mk (below_step (by repeat (first | (with_reducible first | exact HB.out | apply below_alloc | apply pw_below_drewN | apply below_drew1 | refine below_set ?_ GE202.out) | exact HB.out)) hb); have n2_ := Aside0.mk (hbox); have n3_ := Aside0.mk ((by rw [hg]; exact (below_size (by repeat (first | (with_reducible first | exact HB.out | apply below_alloc | apply pw_below_drewN | apply below_drew1 | refine below_set ?_ GE202.out) | exact HB.out))) : w.heap.size ≤ gb203)); have n4_ := Aside0.mk ((by rw [hg]; exact (below_size (by repeat (first | (with_reducible first | exact HB.out | apply below_alloc | apply pw_below_drewN | apply below_drew1 | refine below_set ?_ GE202.out) | exact HB.out))) : w.heap.size ≤ gb203)); have n5_ := Aside0.mk ((by rw [hg]; exact Nat.ne_of_lt (blk_lt (g := gb202) (o := .cells #[.int .i64 a0_0, .int .i64 a0_1] 23 (0, 0)) (by (with_reducible repeat (first | refine blk_drewN ?_ _ | refine blk_drew ?_ | refine blk_alloc ?_ _)); exact BK202.out)) : gb202 ≠ gb203)); have n6_ := Aside0.mk ((by rw [hg]; exact Nat.ne_of_gt (blk_lt (g := gb202) (o := .cells #[.int .i64 a0_0, .int .i64 a0_1] 23 (0, 0)) (by (with_reducible repeat (first | refine blk_drewN ?_ _ | refine blk_drew ?_ | refine blk_alloc ?_ _)); exact BK202.out)) : gb203 ≠ gb202)); clear BK202; clear HB; have BK202 := n0_; have HB := n1_; have BK203 := n2_; have GW203 := n3_; have GE203 := n4_; have NB202_203 := n5_; have NB203_202 := n6_; clear n0_ n1_ n2_ n3_ n4_ n5_ n6_; clear hb hbox hg; have hnb13 := NB202_203.out; have hnc13 := NB203_202.out; have hcz14_0 : w12.cell? ⟨gb202, 0, none⟩ = some (.int .i64 a0_0) := (blk_cell BK202.out 0).trans rfl; have hcz14_1 : w12.cell? ⟨gb202, 1, none⟩ = some (.int .i64 a0_1) := (blk_cell BK202.out 1).trans rfl; have hfz14_0 := blk_frozen BK202.out 0; have hfz14_1 := blk_frozen BK202.out 1) | ((with_reducible refine gate_callee (f := 20) rfl ?_); refine goesL_ (some 4) rfl rfl Try.func20 (by kernel_rfl) rfl #[.agg #[.int .i64 a0_0, .int .i64 a0_1]] rfl (by (try simp only [List.map_toArray, List.map_cons, List.map_nil]); first | done | rfl | (simp only [List.length_drop, List.length_take]; rfl)) ?_; (with_reducible refine (plane_Right.calls a0_0 a0_1 false _ A2.out).mono ?_); rintro e w15 ⟨rfl, hb⟩; refine ⟨_, rfl, ?_⟩; have n0_ := Aside0.mk (blk_below (g := gb202) (o := .cells #[.int .i64 a0_0, .int .i64 a0_1] 23 (0, 0)) (by (with_reducible repeat (first | refine blk_drewN ?_ _ | refine blk_drew ?_ | refine blk_alloc ?_ _)); exact BK202.out) hb); have n1_ := Aside0.mk (blk_below (g := gb203) (o := .cells #[.int .i64 0, .int .i64 0] 23 (0, 0)) (by (with_reducible repeat (first | refine blk_drewN ?_ _ | refine blk_drew ?_ | refine blk_alloc ?_ _)); exact BK203.out) hb); have n2_ := Aside0.mk (below_step (by repeat (first | (with_reducible first | exact HB.out | apply below_alloc | apply pw_below_drewN | apply below_drew1 | refine below_set ?_ GE202.out | refine below_set ?_ GE203.out) | exact HB.out)) hb); clear BK202; clear BK203; clear HB; have BK202 := n0_; have BK203 := n1_; have HB := n2_; clear n0_ n1_ n2_; (try clear hb); (try clear hb2); (try clear hk); (try clear hi); have hcz16_0 : w15.cell? ⟨gb203, 0, none⟩ = some (.int .i64 0) := (blk_cell BK203.out 0).trans rfl; have hcz16_1 : w15.cell? ⟨gb203, 1, none⟩ = some (.int .i64 0) := (blk_cell BK203.out 1).trans rfl; have hfz16_0 := blk_frozen BK203.out 0; have hfz16_1 := blk_frozen BK203.out 1))
    refine bodyPost_ret (results_cell_row rfl _ _ gb203 23 #[.int .i64 1073741824, .int .i64 0] (0, 0) _ rfl (by (with_reducible repeat (first | refine blk_drewN ?_ _ | refine blk_drew ?_ | refine blk_alloc ?_ _)); refine blk_put (cs := #[.int .i64 1073741824, .int .i64 0]) ?_ 1 _ rfl; (with_reducible repeat (first | refine blk_drewN ?_ _ | refine blk_drew ?_ | refine blk_alloc ?_ _)); refine blk_put (cs := #[.int .i64 0, .int .i64 0]) ?_ 0 _ rfl; (with_reducible repeat (first | refine blk_drewN ?_ _ | refine blk_drew ?_ | refine blk_alloc ?_ _)); exact BK203.out) Try.underlying23 rfl (by kernel_rfl)) rfl ?_
    exact ⟨by first | rfl | (simp [errW_none, errW_some] <;> rfl) | (simp [*, errW_none, errW_some] <;> rfl), by repeat (first | (with_reducible first | exact HB.out | apply below_alloc | apply pw_below_drewN | apply below_drew1 | refine below_set ?_ GE202.out | refine below_set ?_ GE203.out) | exact HB.out)⟩

-- NOT PRINTED: function 38 (input_Wind)

-- NOT PRINTED: function 73 (api_Ring_73)

-- NOT PRINTED: function 62 (api_Ring_62)

-- NOT PRINTED: function 80 (api_Point_80)

-- NOT PRINTED: function 74 (api_Point_74)

/-! ### input_far: function 75 -/
def input_far.f (a0_0 : Int) (a0_1 : Int) : Option (Bool) := if a0_0 < (-67108864) then (some true) else (if a0_0 > 67108864 then (some true) else (if a0_1 < (-67108864) then (some true) else (some (decide (a0_1 > 67108864)))))
set_option maxHeartbeats 8000000 in
set_option maxRecDepth 100000 in
theorem input_far.calls (a0_0 : Int) (a0_1 : Int) (r : Bool) (w : World) (h : input_far.f a0_0 a0_1 = some r) :
    Calls Try.prog 75 #[.agg #[.int .i64 a0_0, .int .i64 a0_1]] w fun e w' => e = .returned (.bool r) ∧ Below w.heap.size w w' := by
  have hu23 := Try.underlying23
  have HB := Aside0.mk (Below.refl w.heap.size w)
  have H : (if a0_0 < (-67108864) then (some true) else (if a0_0 > 67108864 then (some true) else (if a0_1 < (-67108864) then (some true) else (some (decide (a0_1 > 67108864)))))) = some r := h
  clear h
  by_cases c2 : a0_0 < (-67108864)
  · rw [if_pos c2] at H
    have c2b0 : decide (a0_0 < (-67108864)) = true := decide_eq_true c2
    clear c2
    obtain rfl := Option.some.inj H
    go_enter Try.func75, Try.ntmps75
    go_wp2_with (first | ((with_reducible refine gate_dst (N := 1) rfl ?_); refine box_event ?hg (N := 1) ?hd (cs := #[.int .i64 a0_0, .int .i64 a0_1]) (t := 23) ?hr ?_; (case hd => rfl); (case hg => rfl); (case hr => first | (go_simp; done) | (go_simp; rfl)); intro gb206 hg w3 hbox hb; have n0_ := Aside0.mk (below_step (by repeat (first | (with_reducible first | exact HB.out | apply below_alloc | apply pw_below_drewN | apply below_drew1) | exact HB.out)) hb); have n1_ := Aside0.mk (hbox); have n2_ := Aside0.mk ((by rw [hg]; exact (below_size (by repeat (first | (with_reducible first | exact HB.out | apply below_alloc | apply pw_below_drewN | apply below_drew1) | exact HB.out))) : w.heap.size ≤ gb206)); have n3_ := Aside0.mk ((by rw [hg]; exact (below_size (by repeat (first | (with_reducible first | exact HB.out | apply below_alloc | apply pw_below_drewN | apply below_drew1) | exact HB.out))) : w.heap.size ≤ gb206)); clear HB; have HB := n0_; have BK206 := n1_; have GW206 := n2_; have GE206 := n3_; clear n0_ n1_ n2_ n3_; clear hb hbox hg; have hcz4_0 : w3.cell? ⟨gb206, 0, none⟩ = some (.int .i64 a0_0) := (blk_cell BK206.out 0).trans rfl; have hcz4_1 : w3.cell? ⟨gb206, 1, none⟩ = some (.int .i64 a0_1) := (blk_cell BK206.out 1).trans rfl; have hfz4_0 := blk_frozen BK206.out 0; have hfz4_1 := blk_frozen BK206.out 1))
    go_ret
    exact ⟨by first | rfl | (simp [errW_none, errW_some] <;> rfl) | (simp [*, errW_none, errW_some] <;> rfl), by repeat (first | (with_reducible first | exact HB.out | apply below_alloc | apply pw_below_drewN | apply below_drew1 | refine below_set ?_ GE206.out) | exact HB.out)⟩
  · rw [if_neg c2] at H
    have c2b0 : decide (a0_0 < (-67108864)) = false := decide_eq_false c2
    clear c2
    by_cases c5 : a0_0 > 67108864
    · rw [if_pos c5] at H
      have c5b0 : decide (67108864 < a0_0) = true := decide_eq_true c5
      clear c5
      obtain rfl := Option.some.inj H
      go_enter Try.func75, Try.ntmps75
      go_wp2_with (first | ((with_reducible refine gate_dst (N := 1) rfl ?_); refine box_event ?hg (N := 1) ?hd (cs := #[.int .i64 a0_0, .int .i64 a0_1]) (t := 23) ?hr ?_; (case hd => rfl); (case hg => rfl); (case hr => first | (go_simp; done) | (go_simp; rfl)); intro gb206 hg w6 hbox hb; have n0_ := Aside0.mk (below_step (by repeat (first | (with_reducible first | exact HB.out | apply below_alloc | apply pw_below_drewN | apply below_drew1) | exact HB.out)) hb); have n1_ := Aside0.mk (hbox); have n2_ := Aside0.mk ((by rw [hg]; exact (below_size (by repeat (first | (with_reducible first | exact HB.out | apply below_alloc | apply pw_below_drewN | apply below_drew1) | exact HB.out))) : w.heap.size ≤ gb206)); have n3_ := Aside0.mk ((by rw [hg]; exact (below_size (by repeat (first | (with_reducible first | exact HB.out | apply below_alloc | apply pw_below_drewN | apply below_drew1) | exact HB.out))) : w.heap.size ≤ gb206)); clear HB; have HB := n0_; have BK206 := n1_; have GW206 := n2_; have GE206 := n3_; clear n0_ n1_ n2_ n3_; clear hb hbox hg; have hcz7_0 : w6.cell? ⟨gb206, 0, none⟩ = some (.int .i64 a0_0) := (blk_cell BK206.out 0).trans rfl; have hcz7_1 : w6.cell? ⟨gb206, 1, none⟩ = some (.int .i64 a0_1) := (blk_cell BK206.out 1).trans rfl; have hfz7_0 := blk_frozen BK206.out 0; have hfz7_1 := blk_frozen BK206.out 1))
      go_ret
      exact ⟨by first | rfl | (simp [errW_none, errW_some] <;> rfl) | (simp [*, errW_none, errW_some] <;> rfl), by repeat (first | (with_reducible first | exact HB.out | apply below_alloc | apply pw_below_drewN | apply below_drew1 | refine below_set ?_ GE206.out) | exact HB.out)⟩
    · rw [if_neg c5] at H
      have c5b0 : decide (67108864 < a0_0) = false := decide_eq_false c5
      clear c5
      by_cases c8 : a0_1 < (-67108864)
      · rw [if_pos c8] at H
        have c8b0 : decide (a0_1 < (-67108864)) = true := decide_eq_true c8
        clear c8
        obtain rfl := Option.some.inj H
        go_enter Try.func75, Try.ntmps75
        go_wp2_with (first | ((with_reducible refine gate_dst (N := 1) rfl ?_); refine box_event ?hg (N := 1) ?hd (cs := #[.int .i64 a0_0, .int .i64 a0_1]) (t := 23) ?hr ?_; (case hd => rfl); (case hg => rfl); (case hr => first | (go_simp; done) | (go_simp; rfl)); intro gb206 hg w9 hbox hb; have n0_ := Aside0.mk (below_step (by repeat (first | (with_reducible first | exact HB.out | apply below_alloc | apply pw_below_drewN | apply below_drew1) | exact HB.out)) hb); have n1_ := Aside0.mk (hbox); have n2_ := Aside0.mk ((by rw [hg]; exact (below_size (by repeat (first | (with_reducible first | exact HB.out | apply below_alloc | apply pw_below_drewN | apply below_drew1) | exact HB.out))) : w.heap.size ≤ gb206)); have n3_ := Aside0.mk ((by rw [hg]; exact (below_size (by repeat (first | (with_reducible first | exact HB.out | apply below_alloc | apply pw_below_drewN | apply below_drew1) | exact HB.out))) : w.heap.size ≤ gb206)); clear HB; have HB := n0_; have BK206 := n1_; have GW206 := n2_; have GE206 := n3_; clear n0_ n1_ n2_ n3_; clear hb hbox hg; have hcz10_0 : w9.cell? ⟨gb206, 0, none⟩ = some (.int .i64 a0_0) := (blk_cell BK206.out 0).trans rfl; have hcz10_1 : w9.cell? ⟨gb206, 1, none⟩ = some (.int .i64 a0_1) := (blk_cell BK206.out 1).trans rfl; have hfz10_0 := blk_frozen BK206.out 0; have hfz10_1 := blk_frozen BK206.out 1))
        go_ret
        exact ⟨by first | rfl | (simp [errW_none, errW_some] <;> rfl) | (simp [*, errW_none, errW_some] <;> rfl), by repeat (first | (with_reducible first | exact HB.out | apply below_alloc | apply pw_below_drewN | apply below_drew1 | refine below_set ?_ GE206.out) | exact HB.out)⟩
      · rw [if_neg c8] at H
        have c8b0 : decide (a0_1 < (-67108864)) = false := decide_eq_false c8
        clear c8
        obtain rfl := Option.some.inj H
        go_enter Try.func75, Try.ntmps75
        go_wp2_with (first | ((with_reducible refine gate_dst (N := 1) rfl ?_); refine box_event ?hg (N := 1) ?hd (cs := #[.int .i64 a0_0, .int .i64 a0_1]) (t := 23) ?hr ?_; (case hd => rfl); (case hg => rfl); (case hr => first | (go_simp; done) | (go_simp; rfl)); intro gb206 hg w11 hbox hb; have n0_ := Aside0.mk (below_step (by repeat (first | (with_reducible first | exact HB.out | apply below_alloc | apply pw_below_drewN | apply below_drew1) | exact HB.out)) hb); have n1_ := Aside0.mk (hbox); have n2_ := Aside0.mk ((by rw [hg]; exact (below_size (by repeat (first | (with_reducible first | exact HB.out | apply below_alloc | apply pw_below_drewN | apply below_drew1) | exact HB.out))) : w.heap.size ≤ gb206)); have n3_ := Aside0.mk ((by rw [hg]; exact (below_size (by repeat (first | (with_reducible first | exact HB.out | apply below_alloc | apply pw_below_drewN | apply below_drew1) | exact HB.out))) : w.heap.size ≤ gb206)); clear HB; have HB := n0_; have BK206 := n1_; have GW206 := n2_; have GE206 := n3_; clear n0_ n1_ n2_ n3_; clear hb hbox hg; have hcz12_0 : w11.cell? ⟨gb206, 0, none⟩ = some (.int .i64 a0_0) := (blk_cell BK206.out 0).trans rfl; have hcz12_1 : w11.cell? ⟨gb206, 1, none⟩ = some (.int .i64 a0_1) := (blk_cell BK206.out 1).trans rfl; have hfz12_0 := blk_frozen BK206.out 0; have hfz12_1 := blk_frozen BK206.out 1))
        go_ret
        exact ⟨by first | rfl | (simp [errW_none, errW_some] <;> rfl) | (simp [*, errW_none, errW_some] <;> rfl), by repeat (first | (with_reducible first | exact HB.out | apply below_alloc | apply pw_below_drewN | apply below_drew1 | refine below_set ?_ GE206.out) | exact HB.out)⟩

-- NOT PRINTED: function 63 (input_rings)

-- NOT PRINTED: function 45 (input_Check)

-- NOT PRINTED: function 47 (input_Edges)

-- NOT PRINTED: function 76 (api_Point_76)

-- NOT PRINTED: function 67 (input_copied)

-- NOT PRINTED: function 49 (input_Clone)

-- NOT PRINTED: function 77 (api_Ring_77)

-- NOT PRINTED: function 68 (input_alike)

-- NOT PRINTED: function 50 (input_Same)

-- NOT PRINTED: function 31 (cobweblaw11_alive)

/-! ### cobwebref11_Does: function 34 -/
-- NOT PRINTED: function 6 (cobweblaw11_InputDoes)

-- NOT PRINTED: function 36 (cobweblaw11_Many)

/-! ### cobweblaw11_right: function 37 -/
mutual
def cobweblaw11_right.l0 : Nat → Int → Int → List (List (S23)) → Int → Int → Option (Bool)
  | 0, _, _, _, _, _ => none
  | k + 1, x1, x2, x11, x12, x13 => if x13 < x12 then (if 0 ≤ x13 then (if x13 < (x11.length : Int) then (cobweblaw11_right.l1 k x1 x2 x11 x12 x13 (rd_L2 x11 x13) ((rd_L2 x11 x13).length : Int) 0) else (none)) else (none)) else ((cobwebref04_Right.f x1 x2).bind fun t229 => (some t229))
def cobweblaw11_right.l1 : Nat → Int → Int → List (List (S23)) → Int → Int → List (S23) → Int → Int → Option (Bool)
  | 0, _, _, _, _, _, _, _, _ => none
  | k + 1, x1, x2, x11, x12, x13, x17, x18, x19 => if x19 < x18 then (if 0 ≤ x19 then (if x19 < (x17.length : Int) then ((cobwebref04_Right.f ((rd_T23 x17 x19).f0) ((rd_T23 x17 x19).f1)).bind fun t233 => (if t233 = true then ((cobwebref04_Right.f (wrap64 (2 * ((rd_T23 x17 x19).f0))) (wrap64 (2 * ((rd_T23 x17 x19).f1)))).bind fun t234 => (if t234 = true then (cobweblaw11_right.l1 k x1 x2 x11 x12 x13 x17 x18 (wrap64 (x19 + 1))) else (some false))) else (some false))) else (none)) else (none)) else (cobweblaw11_right.l0 k x1 x2 x11 x12 (wrap64 (x13 + 1)))
end
def cobweblaw11_right.f (k : Nat) (l0 : List (List (S23))) (a1 : Int) (a2 : Int) : Option (Bool) := cobweblaw11_right.l0 k a1 a2 l0 (l0.length : Int) 0
set_option maxHeartbeats 8000000 in
set_option maxRecDepth 100000 in
theorem cobweblaw11_right.calls (k : Nat) (A0 : Option Addr) (c0 : Nat) (l0 : List (List (S23))) (a1 : Int) (a2 : Int) (r : Bool) (w : World) (hr0 : Kd.C (Kd.slice 23 k23) w A0 l0.length l0) (hc0 : l0.length ≤ c0) (h : cobweblaw11_right.f k l0 a1 a2 = some r) :
    Calls Try.prog 37 #[.slice A0 l0.length c0, .int .i64 a1, .int .i64 a2] w fun e w' => e = .returned (.bool r) ∧ Below w.heap.size w w' := by
  have hu23 := Try.underlying23
  have HR0 := Aside0.mk hr0
  have HC0 := Aside0.mk hc0
  clear hr0 hc0
  have HB := Aside0.mk (Below.refl w.heap.size w)
  have H : (cobweblaw11_right.l0 k a1 a2 l0 (l0.length : Int) 0) = some r := h
  clear h
  have H' := Aside0.mk H
  clear H
  go_enter Try.func37, Try.ntmps37
  go_wp2
  go_loopg [13] k (fun kq v13 w' => ∃ (x13_1 : Int), v13 = .int .i64 x13_1 ∧ Aside0 (cobweblaw11_right.l0 kq a1 a2 l0 (l0.length : Int) x13_1 = some r) ∧ Aside0 (kq ≤ k) ∧ Aside0 (Below w.heap.size w w'))
  case atStart => exact ⟨(0), (by first | rfl | (simp; done) | (simp [*]; done)), H', ⟨Nat.le_refl _⟩, ⟨by repeat (first | (with_reducible first | exact HB.out | apply below_alloc | apply pw_below_drewN | apply below_drew1) | exact HB.out)⟩⟩
  case round =>
    clear H'
    try clear p2
    try clear c3
    obtain ⟨x13_1, rfl, HA, HK1, HB⟩ := hrel
    cases gk with
    | zero => exact absurd HA.out (by simp [cobweblaw11_right.l0])
    | succ k1 =>
      have H := HA.out
      clear HA
      simp only [cobweblaw11_right.l0] at H
      by_cases c4 : x13_1 < (l0.length : Int)
      · rw [if_pos c4] at H
        have c4b0 : decide (x13_1 < (l0.length : Int)) = true := decide_eq_true c4
        clear c4
        by_cases c5 : 0 ≤ x13_1
        · rw [if_pos c5] at H
          have c5b0 : decide (0 ≤ x13_1) = true := decide_eq_true c5
          clear c5
          by_cases c6 : x13_1 < (l0.length : Int)
          · rw [if_pos c6] at H
            have c6b0 : decide (x13_1 < (l0.length : Int)) = true := decide_eq_true c6
            clear c6
            have H' := Aside0.mk H
            clear H
            have p230 : 0 ≤ (x13_1 : Int) := of_decide_eq_true (by first | (with_reducible assumption) | assumption)
            have q230 : x13_1 < (l0.length : Int) := of_decide_eq_true (by first | (with_reducible assumption) | assumption)
            obtain ⟨ad230, A230_0, c230_0, e230, hx230_0, hl230_0, hi230_0⟩ := at_L2 HR0.out x13_1 p230 q230
            cases e230
            replace hx230_0 := (HB.out.cell (World.block_lt_of_cell? w _ hx230_0)).trans hx230_0
            have HR230_0 := Aside0.mk hi230_0
            have HC230_0 := Aside0.mk hl230_0
            clear hi230_0 hl230_0
            replace p230 := eq_true p230
            replace q230 := eq_true q230
            go_wp2
            go_loopg [19] k1 (fun kq v19 w' => ∃ (x19_2 : Int), v19 = .int .i64 x19_2 ∧ Aside0 (cobweblaw11_right.l1 kq a1 a2 l0 (l0.length : Int) x13_1 (rd_L2 l0 x13_1) ((rd_L2 l0 x13_1).length : Int) x19_2 = some r) ∧ Aside0 (kq ≤ k1) ∧ Aside0 (Below w.heap.size w w'))
            case atStart => exact ⟨(0), (by first | rfl | (simp; done) | (simp [*]; done)), H', ⟨Nat.le_refl _⟩, ⟨by repeat (first | (with_reducible first | exact HB.out | apply below_alloc | apply pw_below_drewN | apply below_drew1) | exact HB.out)⟩⟩
            case round =>
              clear H'
              try clear c2
              try clear p2
              try clear q2
              try clear hx2
              try clear c3
              try clear c4
              try clear c4b0
              try clear c5
              try clear c5b0
              try clear c6
              try clear c6b0
              try clear hx230_0
              try clear p2
              try clear p230
              try clear q230
              obtain ⟨x19_2, rfl, HA, HK2, HB⟩ := hrel
              cases gk with
              | zero => exact absurd HA.out (by simp [cobweblaw11_right.l1])
              | succ k2 =>
                have H := HA.out
                clear HA
                simp only [cobweblaw11_right.l1] at H
                by_cases c7 : x19_2 < ((rd_L2 l0 x13_1).length : Int)
                · rw [if_pos c7] at H
                  have c7b0 : decide (x19_2 < ((rd_L2 l0 x13_1).length : Int)) = true := decide_eq_true c7
                  clear c7
                  by_cases c8 : 0 ≤ x19_2
                  · rw [if_pos c8] at H
                    have c8b0 : decide (0 ≤ x19_2) = true := decide_eq_true c8
                    clear c8
                    by_cases c9 : x19_2 < ((rd_L2 l0 x13_1).length : Int)
                    · rw [if_pos c9] at H
                      have c9b0 : decide (x19_2 < ((rd_L2 l0 x13_1).length : Int)) = true := decide_eq_true c9
                      clear c9
                      replace H := Option.bind_eq_some_iff.mp H
                      obtain ⟨t233, A100, H⟩ := H
                      replace H : (if t233 = true then ((cobwebref04_Right.f (wrap64 (2 * ((rd_T23 (rd_L2 l0 x13_1) x19_2).f0))) (wrap64 (2 * ((rd_T23 (rd_L2 l0 x13_1) x19_2).f1)))).bind fun t234 => (if t234 = true then (cobweblaw11_right.l1 k2 a1 a2 l0 (l0.length : Int) x13_1 (rd_L2 l0 x13_1) ((rd_L2 l0 x13_1).length : Int) (wrap64 (x19_2 + 1))) else (some false))) else (some false)) = some r := H
                      have A10 := Aside0.mk A100
                      clear A100
                      by_cases c11 : t233 = true
                      · subst c11
                        have H1 : ((cobwebref04_Right.f (wrap64 (2 * ((rd_T23 (rd_L2 l0 x13_1) x19_2).f0))) (wrap64 (2 * ((rd_T23 (rd_L2 l0 x13_1) x19_2).f1)))).bind fun t234 => (if t234 = true then (cobweblaw11_right.l1 k2 a1 a2 l0 (l0.length : Int) x13_1 (rd_L2 l0 x13_1) ((rd_L2 l0 x13_1).length : Int) (wrap64 (x19_2 + 1))) else (some false))) = some r := by rw [if_pos rfl] at H; exact H
                        clear H
                        have H := H1
                        clear H1
                        replace H := Option.bind_eq_some_iff.mp H
                        obtain ⟨t234, A120, H⟩ := H
                        replace H : (if t234 = true then (cobweblaw11_right.l1 k2 a1 a2 l0 (l0.length : Int) x13_1 (rd_L2 l0 x13_1) ((rd_L2 l0 x13_1).length : Int) (wrap64 (x19_2 + 1))) else (some false)) = some r := H
                        have A12 := Aside0.mk A120
                        clear A120
                        by_cases c13 : t234 = true
                        · subst c13
                          have H1 : (cobweblaw11_right.l1 k2 a1 a2 l0 (l0.length : Int) x13_1 (rd_L2 l0 x13_1) ((rd_L2 l0 x13_1).length : Int) (wrap64 (x19_2 + 1))) = some r := by rw [if_pos rfl] at H; exact H
                          clear H
                          have H := H1
                          clear H1
                          have H' := Aside0.mk H
                          clear H
                          have p231 : 0 ≤ (x19_2 : Int) := of_decide_eq_true (by first | (with_reducible assumption) | assumption)
                          have q231 : x19_2 < ((rd_L2 l0 x13_1).length : Int) := of_decide_eq_true (by first | (with_reducible assumption) | assumption)
                          obtain ⟨ad231, e231, hx231_0, hx231_1⟩ := at_T23 HR230_0.out x19_2 p231 q231
                          cases e231
                          replace hx231_0 := (HB.out.cell (World.block_lt_of_cell? w _ hx231_0)).trans hx231_0
                          replace hx231_1 := (HB.out.cell (World.block_lt_of_cell? w _ hx231_1)).trans hx231_1
                          replace p231 := eq_true p231
                          replace q231 := eq_true q231
                          go_wp2_with (first | ((with_reducible refine gate_dst (N := 10) rfl ?_); refine box_event ?hg (N := 10) ?hd (cs := #[.int .i64 0, .int .i64 0]) (t := 23) ?hr ?_; (case hd => rfl); (case hg => rfl); (case hr => first | (go_simp; done) | (go_simp; rfl)); intro gb232 hg w14 hbox hb; have n0_ := Aside0.mk (below_step (by repeat (first | (with_reducible first | exact HB.out | apply below_alloc | apply pw_below_drewN | apply below_drew1) | exact HB.out)) hb); have n1_ := Aside0.mk (hbox); have n2_ := Aside0.mk ((by rw [hg]; exact (below_size (by repeat (first | (with_reducible first | exact HB.out | apply below_alloc | apply pw_below_drewN | apply below_drew1) | exact HB.out))) : w.heap.size ≤ gb232)); have n3_ := Aside0.mk ((by rw [hg]; exact (below_size (by repeat (first | (with_reducible first | exact HB.out | apply below_alloc | apply pw_below_drewN | apply below_drew1) | exact HB.out))) : w.heap.size ≤ gb232)); clear HB; have HB := n0_; have BK232 := n1_; have GW232 := n2_; have GE232 := n3_; clear n0_ n1_ n2_ n3_; clear hb hbox hg; have hcz15_0 : w14.cell? ⟨gb232, 0, none⟩ = some (.int .i64 0) := (blk_cell BK232.out 0).trans rfl; have hcz15_1 : w14.cell? ⟨gb232, 1, none⟩ = some (.int .i64 0) := (blk_cell BK232.out 1).trans rfl; have hfz15_0 := blk_frozen BK232.out 0; have hfz15_1 := blk_frozen BK232.out 1) | ((with_reducible refine gate_callee (f := 21) rfl ?_); refine goesL_ (some 24) rfl rfl Try.func21 (by kernel_rfl) rfl #[.agg #[.int .i64 ((rd_T23 (rd_L2 l0 x13_1) x19_2).f0), .int .i64 ((rd_T23 (rd_L2 l0 x13_1) x19_2).f1)]] rfl (by (try simp only [List.map_toArray, List.map_cons, List.map_nil]); first | done | rfl | (simp only [List.length_drop, List.length_take]; rfl)) ?_; (with_reducible refine (cobwebref04_Right.calls ((rd_T23 (rd_L2 l0 x13_1) x19_2).f0) ((rd_T23 (rd_L2 l0 x13_1) x19_2).f1) true _ A10.out).mono ?_); rintro e w16 ⟨rfl, hb⟩; refine ⟨_, rfl, ?_⟩; have n0_ := Aside0.mk (blk_below (g := gb232) (o := .cells #[.int .i64 ((rd_T23 (rd_L2 l0 x13_1) x19_2).f0), .int .i64 ((rd_T23 (rd_L2 l0 x13_1) x19_2).f1)] 23 (0, 0)) (by (with_reducible repeat (first | refine blk_drewN ?_ _ | refine blk_drew ?_ | refine blk_alloc ?_ _)); refine blk_put (cs := #[.int .i64 ((rd_T23 (rd_L2 l0 x13_1) x19_2).f0), .int .i64 0]) ?_ 1 _ rfl; (with_reducible repeat (first | refine blk_drewN ?_ _ | refine blk_drew ?_ | refine blk_alloc ?_ _)); refine blk_put (cs := #[.int .i64 0, .int .i64 0]) ?_ 0 _ rfl; (with_reducible repeat (first | refine blk_drewN ?_ _ | refine blk_drew ?_ | refine blk_alloc ?_ _)); exact BK232.out) hb); have n1_ := Aside0.mk (below_step (by repeat (first | (with_reducible first | exact HB.out | apply below_alloc | apply pw_below_drewN | apply below_drew1 | refine below_set ?_ GE232.out) | exact HB.out)) hb); clear BK232; clear HB; have BK232 := n0_; have HB := n1_; clear n0_ n1_; (try clear hb); (try clear hb2); (try clear hk); (try clear hi); have hcz17_0 : w16.cell? ⟨gb232, 0, none⟩ = some (.int .i64 ((rd_T23 (rd_L2 l0 x13_1) x19_2).f0)) := (blk_cell BK232.out 0).trans rfl; have hcz17_1 : w16.cell? ⟨gb232, 1, none⟩ = some (.int .i64 ((rd_T23 (rd_L2 l0 x13_1) x19_2).f1)) := (blk_cell BK232.out 1).trans rfl; have hfz17_0 := blk_frozen BK232.out 0; have hfz17_1 := blk_frozen BK232.out 1) | (go_at_call 21; (with_reducible refine (cobwebref04_Right.calls (wrap64 (2 * ((rd_T23 (rd_L2 l0 x13_1) x19_2).f0))) (wrap64 (2 * ((rd_T23 (rd_L2 l0 x13_1) x19_2).f1))) true _ A12.out).mono ?_); rintro e w18 ⟨rfl, hb⟩; have n0_ := Aside0.mk (blk_below (g := gb232) (o := .cells #[.int .i64 ((rd_T23 (rd_L2 l0 x13_1) x19_2).f0), .int .i64 ((rd_T23 (rd_L2 l0 x13_1) x19_2).f1)] 23 (0, 0)) (by (with_reducible repeat (first | refine blk_drewN ?_ _ | refine blk_drew ?_ | refine blk_alloc ?_ _)); exact BK232.out) hb); have n1_ := Aside0.mk (below_step (by repeat (first | (with_reducible first | exact HB.out | apply below_alloc | apply pw_below_drewN | apply below_drew1 | refine below_set ?_ GE232.out) | exact HB.out)) hb); clear BK232; clear HB; have BK232 := n0_; have HB := n1_; clear n0_ n1_; (try clear hb); (try clear hb2); (try clear hk); (try clear hi)))
                          go_roundg k2
                          case measure => have := HK1.out; have := HK2.out; omega
                          case rel => exact ⟨(wrap64 (x19_2 + 1)), (by first | rfl | (simp; done) | (simp [*]; done)), H', ⟨by have := HK1.out; have := HK2.out; omega⟩, ⟨by repeat (first | (with_reducible first | exact HB.out | apply below_alloc | apply pw_below_drewN | apply below_drew1 | refine below_set ?_ GE232.out) | exact HB.out)⟩⟩
                        · replace c13 := Bool.eq_false_iff.mpr c13
                          subst c13
                          have H1 : (some false) = some r := by rw [if_neg (show ¬ (false = true) by decide)] at H; exact H
                          clear H
                          have H := H1
                          clear H1
                          obtain rfl := Option.some.inj H
                          have p231 : 0 ≤ (x19_2 : Int) := of_decide_eq_true (by first | (with_reducible assumption) | assumption)
                          have q231 : x19_2 < ((rd_L2 l0 x13_1).length : Int) := of_decide_eq_true (by first | (with_reducible assumption) | assumption)
                          obtain ⟨ad231, e231, hx231_0, hx231_1⟩ := at_T23 HR230_0.out x19_2 p231 q231
                          cases e231
                          replace hx231_0 := (HB.out.cell (World.block_lt_of_cell? w _ hx231_0)).trans hx231_0
                          replace hx231_1 := (HB.out.cell (World.block_lt_of_cell? w _ hx231_1)).trans hx231_1
                          replace p231 := eq_true p231
                          replace q231 := eq_true q231
                          go_wp2_with (first | ((with_reducible refine gate_dst (N := 10) rfl ?_); refine box_event ?hg (N := 10) ?hd (cs := #[.int .i64 0, .int .i64 0]) (t := 23) ?hr ?_; (case hd => rfl); (case hg => rfl); (case hr => first | (go_simp; done) | (go_simp; rfl)); intro gb232 hg w19 hbox hb; have n0_ := Aside0.mk (below_step (by repeat (first | (with_reducible first | exact HB.out | apply below_alloc | apply pw_below_drewN | apply below_drew1) | exact HB.out)) hb); have n1_ := Aside0.mk (hbox); have n2_ := Aside0.mk ((by rw [hg]; exact (below_size (by repeat (first | (with_reducible first | exact HB.out | apply below_alloc | apply pw_below_drewN | apply below_drew1) | exact HB.out))) : w.heap.size ≤ gb232)); have n3_ := Aside0.mk ((by rw [hg]; exact (below_size (by repeat (first | (with_reducible first | exact HB.out | apply below_alloc | apply pw_below_drewN | apply below_drew1) | exact HB.out))) : w.heap.size ≤ gb232)); clear HB; have HB := n0_; have BK232 := n1_; have GW232 := n2_; have GE232 := n3_; clear n0_ n1_ n2_ n3_; clear hb hbox hg; have hcz20_0 : w19.cell? ⟨gb232, 0, none⟩ = some (.int .i64 0) := (blk_cell BK232.out 0).trans rfl; have hcz20_1 : w19.cell? ⟨gb232, 1, none⟩ = some (.int .i64 0) := (blk_cell BK232.out 1).trans rfl; have hfz20_0 := blk_frozen BK232.out 0; have hfz20_1 := blk_frozen BK232.out 1) | ((with_reducible refine gate_callee (f := 21) rfl ?_); refine goesL_ (some 24) rfl rfl Try.func21 (by kernel_rfl) rfl #[.agg #[.int .i64 ((rd_T23 (rd_L2 l0 x13_1) x19_2).f0), .int .i64 ((rd_T23 (rd_L2 l0 x13_1) x19_2).f1)]] rfl (by (try simp only [List.map_toArray, List.map_cons, List.map_nil]); first | done | rfl | (simp only [List.length_drop, List.length_take]; rfl)) ?_; (with_reducible refine (cobwebref04_Right.calls ((rd_T23 (rd_L2 l0 x13_1) x19_2).f0) ((rd_T23 (rd_L2 l0 x13_1) x19_2).f1) true _ A10.out).mono ?_); rintro e w21 ⟨rfl, hb⟩; refine ⟨_, rfl, ?_⟩; have n0_ := Aside0.mk (blk_below (g := gb232) (o := .cells #[.int .i64 ((rd_T23 (rd_L2 l0 x13_1) x19_2).f0), .int .i64 ((rd_T23 (rd_L2 l0 x13_1) x19_2).f1)] 23 (0, 0)) (by (with_reducible repeat (first | refine blk_drewN ?_ _ | refine blk_drew ?_ | refine blk_alloc ?_ _)); refine blk_put (cs := #[.int .i64 ((rd_T23 (rd_L2 l0 x13_1) x19_2).f0), .int .i64 0]) ?_ 1 _ rfl; (with_reducible repeat (first | refine blk_drewN ?_ _ | refine blk_drew ?_ | refine blk_alloc ?_ _)); refine blk_put (cs := #[.int .i64 0, .int .i64 0]) ?_ 0 _ rfl; (with_reducible repeat (first | refine blk_drewN ?_ _ | refine blk_drew ?_ | refine blk_alloc ?_ _)); exact BK232.out) hb); have n1_ := Aside0.mk (below_step (by repeat (first | (with_reducible first | exact HB.out | apply below_alloc | apply pw_below_drewN | apply below_drew1 | refine below_set ?_ GE232.out) | exact HB.out)) hb); clear BK232; clear HB; have BK232 := n0_; have HB := n1_; clear n0_ n1_; (try clear hb); (try clear hb2); (try clear hk); (try clear hi); have hcz22_0 : w21.cell? ⟨gb232, 0, none⟩ = some (.int .i64 ((rd_T23 (rd_L2 l0 x13_1) x19_2).f0)) := (blk_cell BK232.out 0).trans rfl; have hcz22_1 : w21.cell? ⟨gb232, 1, none⟩ = some (.int .i64 ((rd_T23 (rd_L2 l0 x13_1) x19_2).f1)) := (blk_cell BK232.out 1).trans rfl; have hfz22_0 := blk_frozen BK232.out 0; have hfz22_1 := blk_frozen BK232.out 1) | (go_at_call 21; (with_reducible refine (cobwebref04_Right.calls (wrap64 (2 * ((rd_T23 (rd_L2 l0 x13_1) x19_2).f0))) (wrap64 (2 * ((rd_T23 (rd_L2 l0 x13_1) x19_2).f1))) false _ A12.out).mono ?_); rintro e w23 ⟨rfl, hb⟩; have n0_ := Aside0.mk (blk_below (g := gb232) (o := .cells #[.int .i64 ((rd_T23 (rd_L2 l0 x13_1) x19_2).f0), .int .i64 ((rd_T23 (rd_L2 l0 x13_1) x19_2).f1)] 23 (0, 0)) (by (with_reducible repeat (first | refine blk_drewN ?_ _ | refine blk_drew ?_ | refine blk_alloc ?_ _)); exact BK232.out) hb); have n1_ := Aside0.mk (below_step (by repeat (first | (with_reducible first | exact HB.out | apply below_alloc | apply pw_below_drewN | apply below_drew1 | refine below_set ?_ GE232.out) | exact HB.out)) hb); clear BK232; clear HB; have BK232 := n0_; have HB := n1_; clear n0_ n1_; (try clear hb); (try clear hb2); (try clear hk); (try clear hi)))
                          go_ret
                          exact ⟨by first | rfl | (simp [errW_none, errW_some] <;> rfl) | (simp [*, errW_none, errW_some] <;> rfl), by repeat (first | (with_reducible first | exact HB.out | apply below_alloc | apply pw_below_drewN | apply below_drew1 | refine below_set ?_ GE232.out) | exact HB.out)⟩
                      · replace c11 := Bool.eq_false_iff.mpr c11
                        subst c11
                        have H1 : (some false) = some r := by rw [if_neg (show ¬ (false = true) by decide)] at H; exact H
                        clear H
                        have H := H1
                        clear H1
                        obtain rfl := Option.some.inj H
                        have p231 : 0 ≤ (x19_2 : Int) := of_decide_eq_true (by first | (with_reducible assumption) | assumption)
                        have q231 : x19_2 < ((rd_L2 l0 x13_1).length : Int) := of_decide_eq_true (by first | (with_reducible assumption) | assumption)
                        obtain ⟨ad231, e231, hx231_0, hx231_1⟩ := at_T23 HR230_0.out x19_2 p231 q231
                        cases e231
                        replace hx231_0 := (HB.out.cell (World.block_lt_of_cell? w _ hx231_0)).trans hx231_0
                        replace hx231_1 := (HB.out.cell (World.block_lt_of_cell? w _ hx231_1)).trans hx231_1
                        replace p231 := eq_true p231
                        replace q231 := eq_true q231
                        go_wp2_with (first | ((with_reducible refine gate_dst (N := 10) rfl ?_); refine box_event ?hg (N := 10) ?hd (cs := #[.int .i64 0, .int .i64 0]) (t := 23) ?hr ?_; (case hd => rfl); (case hg => rfl); (case hr => first | (go_simp; done) | (go_simp; rfl)); intro gb232 hg w24 hbox hb; have n0_ := Aside0.mk (below_step (by repeat (first | (with_reducible first | exact HB.out | apply below_alloc | apply pw_below_drewN | apply below_drew1) | exact HB.out)) hb); have n1_ := Aside0.mk (hbox); have n2_ := Aside0.mk ((by rw [hg]; exact (below_size (by repeat (first | (with_reducible first | exact HB.out | apply below_alloc | apply pw_below_drewN | apply below_drew1) | exact HB.out))) : w.heap.size ≤ gb232)); have n3_ := Aside0.mk ((by rw [hg]; exact (below_size (by repeat (first | (with_reducible first | exact HB.out | apply below_alloc | apply pw_below_drewN | apply below_drew1) | exact HB.out))) : w.heap.size ≤ gb232)); clear HB; have HB := n0_; have BK232 := n1_; have GW232 := n2_; have GE232 := n3_; clear n0_ n1_ n2_ n3_; clear hb hbox hg; have hcz25_0 : w24.cell? ⟨gb232, 0, none⟩ = some (.int .i64 0) := (blk_cell BK232.out 0).trans rfl; have hcz25_1 : w24.cell? ⟨gb232, 1, none⟩ = some (.int .i64 0) := (blk_cell BK232.out 1).trans rfl; have hfz25_0 := blk_frozen BK232.out 0; have hfz25_1 := blk_frozen BK232.out 1) | ((with_reducible refine gate_callee (f := 21) rfl ?_); refine goesL_ (some 24) rfl rfl Try.func21 (by kernel_rfl) rfl #[.agg #[.int .i64 ((rd_T23 (rd_L2 l0 x13_1) x19_2).f0), .int .i64 ((rd_T23 (rd_L2 l0 x13_1) x19_2).f1)]] rfl (by (try simp only [List.map_toArray, List.map_cons, List.map_nil]); first | done | rfl | (simp only [List.length_drop, List.length_take]; rfl)) ?_; (with_reducible refine (cobwebref04_Right.calls ((rd_T23 (rd_L2 l0 x13_1) x19_2).f0) ((rd_T23 (rd_L2 l0 x13_1) x19_2).f1) false _ A10.out).mono ?_); rintro e w26 ⟨rfl, hb⟩; refine ⟨_, rfl, ?_⟩; have n0_ := Aside0.mk (blk_below (g := gb232) (o := .cells #[.int .i64 ((rd_T23 (rd_L2 l0 x13_1) x19_2).f0), .int .i64 ((rd_T23 (rd_L2 l0 x13_1) x19_2).f1)] 23 (0, 0)) (by (with_reducible repeat (first | refine blk_drewN ?_ _ | refine blk_drew ?_ | refine blk_alloc ?_ _)); refine blk_put (cs := #[.int .i64 ((rd_T23 (rd_L2 l0 x13_1) x19_2).f0), .int .i64 0]) ?_ 1 _ rfl; (with_reducible repeat (first | refine blk_drewN ?_ _ | refine blk_drew ?_ | refine blk_alloc ?_ _)); refine blk_put (cs := #[.int .i64 0, .int .i64 0]) ?_ 0 _ rfl; (with_reducible repeat (first | refine blk_drewN ?_ _ | refine blk_drew ?_ | refine blk_alloc ?_ _)); exact BK232.out) hb); have n1_ := Aside0.mk (below_step (by repeat (first | (with_reducible first | exact HB.out | apply below_alloc | apply pw_below_drewN | apply below_drew1 | refine below_set ?_ GE232.out) | exact HB.out)) hb); clear BK232; clear HB; have BK232 := n0_; have HB := n1_; clear n0_ n1_; (try clear hb); (try clear hb2); (try clear hk); (try clear hi)))
                        go_ret
                        exact ⟨by first | rfl | (simp [errW_none, errW_some] <;> rfl) | (simp [*, errW_none, errW_some] <;> rfl), by repeat (first | (with_reducible first | exact HB.out | apply below_alloc | apply pw_below_drewN | apply below_drew1 | refine below_set ?_ GE232.out) | exact HB.out)⟩
                    · rw [if_neg c9] at H
                      exact absurd H (by simp)
                  · rw [if_neg c8] at H
                    exact absurd H (by simp)
                · rw [if_neg c7] at H
                  have c7b0 : decide (x19_2 < ((rd_L2 l0 x13_1).length : Int)) = false := decide_eq_false c7
                  clear c7
                  have H' := Aside0.mk H
                  clear H
                  go_wp2
                  go_roundg k2
                  case measure => have := HK1.out; have := HK2.out; omega
                  case rel => exact ⟨(wrap64 (x13_1 + 1)), (by first | rfl | (simp; done) | (simp [*]; done)), H', ⟨by have := HK1.out; have := HK2.out; omega⟩, ⟨by repeat (first | (with_reducible first | exact HB.out | apply below_alloc | apply pw_below_drewN | apply below_drew1) | exact HB.out)⟩⟩
          · rw [if_neg c6] at H
            exact absurd H (by simp)
        · rw [if_neg c5] at H
          exact absurd H (by simp)
      · rw [if_neg c4] at H
        have c4b0 : decide (x13_1 < (l0.length : Int)) = false := decide_eq_false c4
        clear c4
        replace H := Option.bind_eq_some_iff.mp H
        obtain ⟨t229, A270, H⟩ := H
        replace H : (some t229) = some r := H
        have A27 := Aside0.mk A270
        clear A270
        obtain rfl := Option.some.inj H
        go_wp2_with (first | ((with_reducible refine gate_callee (f := 21) rfl ?_); refine goesL_ (some 42) rfl rfl Try.func21 (by kernel_rfl) rfl #[.agg #[.int .i64 a1, .int .i64 a2]] rfl (by (try simp only [List.map_toArray, List.map_cons, List.map_nil]); first | done | rfl | (simp only [List.length_drop, List.length_take]; rfl)) ?_; (with_reducible refine (cobwebref04_Right.calls a1 a2 t229 _ A27.out).mono ?_); rintro e w28 ⟨rfl, hb⟩; refine ⟨_, rfl, ?_⟩; have n0_ := Aside0.mk (below_step (by repeat (first | (with_reducible first | exact HB.out | apply below_alloc | apply pw_below_drewN | apply below_drew1) | exact HB.out)) hb); clear HB; have HB := n0_; clear n0_; (try clear hb); (try clear hb2); (try clear hk); (try clear hi)))
        go_ret
        exact ⟨by first | rfl | (simp [errW_none, errW_some] <;> rfl) | (simp [*, errW_none, errW_some] <;> rfl), by repeat (first | (with_reducible first | exact HB.out | apply below_alloc | apply pw_below_drewN | apply below_drew1) | exact HB.out)⟩

-- NOT PRINTED: function 7 (cobweblaw11_InputMoved)

-- NOT PRINTED: function 8 (cobweblaw04_PlaneBoxes)

-- NOT PRINTED: function 9 (cobweblaw04_PlaneAround)

end Go.Proofs.Ytpfgjagpaddcpaa.X

/-! How the arguments of these laws read: points, boxes, arrays of points, rows of points, rings. -/
namespace Go.Proofs.Ytpfgjagpaddcpaa.Own
open Go.RowKit Go.Proofs.YtpfgjagpaddcpaaW.PrintWords
open Go.Proofs.Ytpfgjagpaddcpaa.X
open Go.ChangeShapes Go.WideShapes
set_option linter.unusedVariables false
set_option linter.unusedSimpArgs false

theorem own : ownKnob Try.prog.godebug = none := by kernel_rfl
theorem laidOut : laidOutB Try.prog = true := by kernel_rfl
theorem cells3 : Try.prog.cellsOf 3 = 1 := by kernel_rfl
theorem cells23 : Try.prog.cellsOf 23 = 2 := by kernel_rfl
theorem cells33 : Try.prog.cellsOf 33 = 4 := by kernel_rfl
theorem cells29 : Try.prog.cellsOf 29 = 6 := by kernel_rfl
theorem cells43 : Try.prog.cellsOf 43 = 2 := by kernel_rfl
theorem cells72 : Try.prog.cellsOf 72 = 3 := by kernel_rfl
theorem cells46 : Try.prog.cellsOf 46 = 1 := by kernel_rfl
theorem cells47 : Try.prog.cellsOf 47 = 1 := by kernel_rfl
theorem cells35 : Try.prog.cellsOf 35 = 1 := by kernel_rfl
theorem cells37 : Try.prog.cellsOf 37 = 6 := by kernel_rfl

section
variable {H : Type} {enc : TypeId × Value → H} {W : World} {base : Nat} {sp : Nat → Bool} {held : Bool} {n : Nat} {cs : List Value} {x : DataW H × List MemPlace}

theorem trod_num (h : DataW.trod enc Try.prog W base sp held n 3 cs = some x) : ∃ a, cs = [.int .i64 a] ∧ -9223372036854775808 ≤ a ∧ a ≤ 9223372036854775807 := by
  obtain ⟨a, h1, _, h2⟩ := DataW.trod_int Try.underlying3 h
  refine ⟨a, h1, ?_⟩
  simp only [Lit.wf, Bool.and_eq_true, decide_eq_true_eq] at h2
  exact h2

theorem trod_pt (h : DataW.trod enc Try.prog W base sp held n 23 cs = some x) : ∃ a b, cs = [.int .i64 a, .int .i64 b] ∧ (-9223372036854775808 ≤ a ∧ a ≤ 9223372036854775807) ∧ -9223372036854775808 ≤ b ∧ b ≤ 9223372036854775807 := by
  obtain ⟨y0, y1, m, _, hl, h0, h1⟩ := trod_struct2 Try.underlying23 h
  rw [cells23] at hl
  match cs, hl with
  | [c0, c1], _ =>
    simp only [cells3] at h0 h1
    obtain ⟨a, e0, w0⟩ := trod_num h0
    obtain ⟨b, e1, w1⟩ := trod_num h1
    simp at e0 e1
    exact ⟨a, b, by rw [e0, e1], w0, w1⟩

theorem trod_box (h : DataW.trod enc Try.prog W base sp held n 33 cs = some x) : ∃ a b c d, cs = [.int .i64 a, .int .i64 b, .int .i64 c, .int .i64 d] := by
  obtain ⟨y0, y1, m, _, hl, h0, h1⟩ := trod_struct2 Try.underlying33 h
  rw [cells33] at hl
  match cs, hl with
  | [c0, c1, c2, c3], _ =>
    simp only [cells23] at h0 h1
    obtain ⟨a, b, e0, _⟩ := trod_pt h0
    obtain ⟨c, d, e1, _⟩ := trod_pt h1
    simp at e0 e1
    exact ⟨a, b, c, d, by rw [e0.1, e0.2, e1.1, e1.2]⟩

theorem trod_arr3 (h : DataW.trod enc Try.prog W base sp held n 29 cs = some x) : ∃ a b c d e f, cs = [.int .i64 a, .int .i64 b, .int .i64 c, .int .i64 d, .int .i64 e, .int .i64 f] := by
  obtain ⟨xs, m, _, _, hl, hx, hi⟩ := DataW.trod_array Try.underlying29 h
  rw [cells29] at hl
  match cs, hl with
  | [c0, c1, c2, c3, c4, c5], _ =>
    match xs, hx with
    | [y0, y1, y2], _ =>
      have h0 := hi 0 (by omega)
      have h1 := hi 1 (by omega)
      have h2 := hi 2 (by omega)
      simp only [cells23] at h0 h1 h2
      obtain ⟨a, b, e0, _⟩ := trod_pt h0
      obtain ⟨c, d, e1, _⟩ := trod_pt h1
      obtain ⟨e, f, e2, _⟩ := trod_pt h2
      simp at e0 e1 e2
      exact ⟨a, b, c, d, e, f, by rw [e0.1, e0.2, e1.1, e1.2, e2.1, e2.2]⟩

theorem trod_arr2i (h : DataW.trod enc Try.prog W base sp held n 43 cs = some x) : ∃ a b, cs = [.int .i64 a, .int .i64 b] ∧ (-9223372036854775808 ≤ a ∧ a ≤ 9223372036854775807) ∧ -9223372036854775808 ≤ b ∧ b ≤ 9223372036854775807 := by
  obtain ⟨xs, m, _, _, hl, hx, hi⟩ := DataW.trod_array Try.underlying43 h
  rw [cells43] at hl
  match cs, hl with
  | [c0, c1], _ =>
    match xs, hx with
    | [y0, y1], _ =>
      have h0 := hi 0 (by omega)
      have h1 := hi 1 (by omega)
      simp only [cells3] at h0 h1
      obtain ⟨a, e0, w0⟩ := trod_num h0
      obtain ⟨b, e1, w1⟩ := trod_num h1
      simp at e0 e1
      exact ⟨a, b, by rw [e0, e1], w0, w1⟩

theorem trod_arr3i (h : DataW.trod enc Try.prog W base sp held n 72 cs = some x) : ∃ a b c, cs = [.int .i64 a, .int .i64 b, .int .i64 c] := by
  obtain ⟨xs, m, _, _, hl, hx, hi⟩ := DataW.trod_array Try.underlying72 h
  rw [cells72] at hl
  match cs, hl with
  | [c0, c1, c2], _ =>
    match xs, hx with
    | [y0, y1, y2], _ =>
      have h0 := hi 0 (by omega)
      have h1 := hi 1 (by omega)
      have h2 := hi 2 (by omega)
      simp only [cells3] at h0 h1 h2
      obtain ⟨a, e0, _⟩ := trod_num h0
      obtain ⟨b, e1, _⟩ := trod_num h1
      obtain ⟨c, e2, _⟩ := trod_num h2
      simp at e0 e1 e2
      exact ⟨a, b, c, by rw [e0, e1, e2]⟩

end

/-- The values of the laws' arguments. -/
theorem open_pt {H : Type} {enc : TypeId × Value → H} {W : World} {b0 base : Nat} {sp : Nat → Bool} {v : Value} {d : DataW H} {p : List MemPlace} (hv : Value.okWide Try.prog W .any b0 23 v) (h : DataW.Trod enc Try.prog W base sp true 23 v d p) :
    ∃ a b, v = .agg #[.int .i64 a, .int .i64 b] ∧ (-9223372036854775808 ≤ a ∧ a ≤ 9223372036854775807) ∧ -9223372036854775808 ≤ b ∧ b ≤ 9223372036854775807 := by
  obtain ⟨cs, rfl, _⟩ := okWide_struct Try.underlying23 hv
  obtain ⟨n, hf⟩ := h
  obtain ⟨a, b, e, w⟩ := trod_pt hf
  exact ⟨a, b, by rw [Array.ext' (show cs.toList = #[Value.int .i64 a, .int .i64 b].toList from e)], w⟩

theorem open_box {H : Type} {enc : TypeId × Value → H} {W : World} {b0 base : Nat} {sp : Nat → Bool} {v : Value} {d : DataW H} {p : List MemPlace} (hv : Value.okWide Try.prog W .any b0 33 v) (h : DataW.Trod enc Try.prog W base sp true 33 v d p) :
    ∃ a b c e, v = .agg #[.int .i64 a, .int .i64 b, .int .i64 c, .int .i64 e] := by
  obtain ⟨cs, rfl, _⟩ := okWide_struct Try.underlying33 hv
  obtain ⟨n, hf⟩ := h
  obtain ⟨a, b, c, e, hh⟩ := trod_box hf
  exact ⟨a, b, c, e, by rw [Array.ext' (show cs.toList = #[Value.int .i64 a, .int .i64 b, .int .i64 c, .int .i64 e].toList from hh)]⟩

theorem okWide_arr {P : Program} {w : World} {r : Reach} {base : Nat} {t e : TypeId} {n : Nat} {v : Value} (ht : P.underlying t = some (.array n e)) (h : Value.okWide P w r base t v) : ∃ cs, v = .agg cs := by
  simp only [Value.okWide, ht] at h
  obtain ⟨cs, h1, _⟩ := h
  exact ⟨cs, h1⟩

theorem open_arr3 {H : Type} {enc : TypeId × Value → H} {W : World} {b0 base : Nat} {sp : Nat → Bool} {v : Value} {d : DataW H} {p : List MemPlace} (hv : Value.okWide Try.prog W .any b0 29 v) (h : DataW.Trod enc Try.prog W base sp true 29 v d p) :
    ∃ a b c e f g, v = .agg #[.int .i64 a, .int .i64 b, .int .i64 c, .int .i64 e, .int .i64 f, .int .i64 g] := by
  obtain ⟨cs, rfl⟩ := okWide_arr Try.underlying29 hv
  obtain ⟨n, hf⟩ := h
  obtain ⟨a, b, c, e, f, g, hh⟩ := trod_arr3 hf
  exact ⟨a, b, c, e, f, g, by rw [Array.ext' (show cs.toList = #[Value.int .i64 a, .int .i64 b, .int .i64 c, .int .i64 e, .int .i64 f, .int .i64 g].toList from hh)]⟩

theorem open_arr2i {H : Type} {enc : TypeId × Value → H} {W : World} {b0 base : Nat} {sp : Nat → Bool} {v : Value} {d : DataW H} {p : List MemPlace} (hv : Value.okWide Try.prog W .any b0 43 v) (h : DataW.Trod enc Try.prog W base sp true 43 v d p) :
    ∃ a b, v = .agg #[.int .i64 a, .int .i64 b] ∧ (-9223372036854775808 ≤ a ∧ a ≤ 9223372036854775807) ∧ -9223372036854775808 ≤ b ∧ b ≤ 9223372036854775807 := by
  obtain ⟨cs, rfl⟩ := okWide_arr Try.underlying43 hv
  obtain ⟨n, hf⟩ := h
  obtain ⟨a, b, hh, w⟩ := trod_arr2i hf
  exact ⟨a, b, by rw [Array.ext' (show cs.toList = #[Value.int .i64 a, .int .i64 b].toList from hh)], w⟩

theorem open_arr3i {H : Type} {enc : TypeId × Value → H} {W : World} {b0 base : Nat} {sp : Nat → Bool} {v : Value} {d : DataW H} {p : List MemPlace} (hv : Value.okWide Try.prog W .any b0 72 v) (h : DataW.Trod enc Try.prog W base sp true 72 v d p) :
    ∃ a b c, v = .agg #[.int .i64 a, .int .i64 b, .int .i64 c] := by
  obtain ⟨cs, rfl⟩ := okWide_arr Try.underlying72 hv
  obtain ⟨n, hf⟩ := h
  obtain ⟨a, b, c, hh⟩ := trod_arr3i hf
  exact ⟨a, b, c, by rw [Array.ext' (show cs.toList = #[Value.int .i64 a, .int .i64 b, .int .i64 c].toList from hh)]⟩

end Go.Proofs.Ytpfgjagpaddcpaa.Own

/-! Rows of points, and rows of rings, as they come in. -/
namespace Go.Proofs.Ytpfgjagpaddcpaa.Own
open Go.RowKit Go.Proofs.YtpfgjagpaddcpaaW.PrintWords
open Go.Proofs.Ytpfgjagpaddcpaa.X
open Go.ChangeShapes Go.WideShapes
set_option linter.unusedVariables false
set_option linter.unusedSimpArgs false

section
variable {H : Type} {enc : TypeId × Value → H} {W : World} {base : Nat} {sp : Nat → Bool} {held : Bool} {n : Nat} {cs : List Value} {x : DataW H × List MemPlace}

theorem add_add' (a : Addr) (i j : Nat) : (a.add i).add j = a.add (i + j) := Go.Deep.add_add a i j

/-- A row of points: what it holds; how many data it reads as. -/
theorem trod_row {t : TypeId} (ht : Try.prog.underlying t = some (.slice 23)) (h : DataW.trod enc Try.prog W base sp held n t cs = some x) :
    ∃ (A : Option Addr) (c : Nat) (l : List S23), cs = [.slice A l.length c] ∧ l.length ≤ c ∧ Kd.C k23 W A l.length l ∧ (l = [] ∨ ∃ el es, x.1 = .slice el es ∧ el.length = l.length) := by
  rcases Go.Deep.open_slice ht h with ⟨rfl, rfl⟩ | ⟨a, len, cap, m, k, D, Pl, rfl, _, hl, hm, hmm, rfl, hx⟩
  · exact ⟨none, 0, [], rfl, Nat.le_refl _, ⟨rfl, by decide, fun h => absurd h (Nat.lt_irrefl _)⟩, Or.inl rfl⟩
  · have hle : len ≤ m := by rw [hmm]; split <;> omega
    have hm' : cap ≤ 9223372036854775807 := by simpa [maxLen] using hm
    have : Inhabited S23 := ⟨z23⟩
    obtain ⟨f, hf⟩ := Go.Deep.choose_lt (α := S23) (n := len) (p := fun i p => W.cells? base (a.add (i * 2)) 2 = some [.int .i64 p.f0, .int .i64 p.f1]) (fun i hi => by
      obtain ⟨cs', h1, h2⟩ := hx i (by omega)
      rw [cells23] at h1
      obtain ⟨u, v, rfl, _⟩ := trod_pt h2
      exact ⟨⟨u, v⟩, h1⟩)
    have hlen : ((List.range len).map f).length = len := by simp
    refine ⟨some a, cap, (List.range len).map f, by rw [hlen], by rw [hlen]; exact hl, ⟨rfl, by rw [hlen]; omega, fun _ => ⟨a, rfl, fun j p hj => ?_⟩⟩, Or.inr ⟨_, _, rfl, by simp⟩⟩
    obtain ⟨hj1, hj2⟩ := List.getElem?_eq_some_iff.1 hj
    rw [hlen] at hj1
    simp at hj2
    subst hj2
    obtain ⟨_, _, hc⟩ := World.cells?_some (hf j hj1)
    refine ⟨[.int .i64 (f j).f0, .int .i64 (f j).f1], rfl, k23_mk W _, fun i u hu => ?_⟩
    have hi : i < 2 := by
      have := (List.getElem?_eq_some_iff.1 hu).1
      simpa using this
    have := hc i hi
    rw [add_add', hu] at this
    exact this

/-- Rings: what they hold; how many data they read as. -/
theorem trod_rows (h : DataW.trod enc Try.prog W base sp held n 35 cs = some x) :
    ∃ (A : Option Addr) (c : Nat) (l : List (List S23)), cs = [.slice A l.length c] ∧ l.length ≤ c ∧ Kd.C (Kd.slice 23 k23) W A l.length l ∧
      (l = [] ∨ ∃ el es, x.1 = .slice el es ∧ el.length = l.length ∧ ∀ (i : Nat) (d : DataW H) (r : List S23), el[i]? = some d → l[i]? = some r → (r = [] ∨ ∃ el2 es2, d = .slice el2 es2 ∧ el2.length = r.length)) := by
  rcases Go.Deep.open_slice Try.underlying35 h with ⟨rfl, rfl⟩ | ⟨a, len, cap, m, k, D, Pl, rfl, _, hl, hm, hmm, rfl, hx⟩
  · exact ⟨none, 0, [], rfl, Nat.le_refl _, ⟨rfl, by decide, fun h => absurd h (Nat.lt_irrefl _)⟩, Or.inl rfl⟩
  · have hle : len ≤ m := by rw [hmm]; split <;> omega
    have hm' : cap ≤ 9223372036854775807 := by simpa [maxLen] using hm
    obtain ⟨f, hf⟩ := Go.Deep.choose_lt (α := List S23) (n := len) (p := fun i r => ∃ A c, W.cells? base (a.add (i * 1)) 1 = some [.slice A r.length c] ∧ r.length ≤ c ∧ Kd.C k23 W A r.length r ∧ (r = [] ∨ ∃ el2 es2, D i = .slice el2 es2 ∧ el2.length = r.length)) (fun i hi => by
      obtain ⟨cs', h1, h2⟩ := hx i (by omega)
      rw [cells47] at h1
      obtain ⟨A, c, r, rfl, hc, hr, hb⟩ := trod_row Try.underlying47 h2
      exact ⟨r, A, c, h1, hc, hr, hb⟩)
    have hlen : ((List.range len).map f).length = len := by simp
    refine ⟨some a, cap, (List.range len).map f, by rw [hlen], by rw [hlen]; exact hl, ⟨rfl, by rw [hlen]; omega, fun _ => ⟨a, rfl, fun j p hj => ?_⟩⟩, Or.inr ⟨_, _, rfl, by simp, fun i d r hd hr => ?_⟩⟩
    · obtain ⟨hj1, hj2⟩ := List.getElem?_eq_some_iff.1 hj
      rw [hlen] at hj1
      simp at hj2
      subst hj2
      obtain ⟨A, c, hc, h2, h3, _⟩ := hf j hj1
      refine ⟨[.slice A (f j).length c], rfl, ⟨A, c, rfl, h2, h3⟩, fun i u hu => ?_⟩
      obtain ⟨_, _, hc'⟩ := World.cells?_some hc
      have hi : i < 1 := by
        have := (List.getElem?_eq_some_iff.1 hu).1
        simpa using this
      have := hc' i hi
      rw [add_add', hu] at this
      exact this
    · obtain ⟨hj1, hj2⟩ := List.getElem?_eq_some_iff.1 hr
      rw [hlen] at hj1
      simp at hj2
      subst hj2
      obtain ⟨_, _, _, _, _, hb⟩ := hf i hj1
      obtain ⟨_, hd2⟩ := List.getElem?_eq_some_iff.1 hd
      simp at hd2
      rw [← hd2]
      exact hb

end

theorem open_row {H : Type} {enc : TypeId × Value → H} {W : World} {b0 base : Nat} {sp : Nat → Bool} {t : TypeId} {v : Value} {d : DataW H} {p : List MemPlace} (ht : Try.prog.underlying t = some (.slice 23)) (hv : Value.okWide Try.prog W .any b0 t v) (h : DataW.Trod enc Try.prog W base sp true t v d p) :
    ∃ (A : Option Addr) (c : Nat) (l : List S23), v = .slice A l.length c ∧ l.length ≤ c ∧ Kd.C k23 W A l.length l ∧ (l = [] ∨ ∃ el es, d = .slice el es ∧ el.length = l.length) := by
  obtain ⟨A, len, cap, rfl⟩ := okWide_slice ht hv
  obtain ⟨n, hf⟩ := h
  obtain ⟨A', c, l, e, h1, h2, h3⟩ := trod_row ht hf
  simp [Value.cells] at e
  obtain ⟨rfl, rfl, rfl⟩ := e
  exact ⟨_, _, l, rfl, h1, h2, h3⟩

theorem open_rows {H : Type} {enc : TypeId × Value → H} {W : World} {b0 base : Nat} {sp : Nat → Bool} {v : Value} {d : DataW H} {p : List MemPlace} (hv : Value.okWide Try.prog W .any b0 35 v) (h : DataW.Trod enc Try.prog W base sp true 35 v d p) :
    ∃ (A : Option Addr) (c : Nat) (l : List (List S23)), v = .slice A l.length c ∧ l.length ≤ c ∧ Kd.C (Kd.slice 23 k23) W A l.length l ∧
      (l = [] ∨ ∃ el es, d = .slice el es ∧ el.length = l.length ∧ ∀ (i : Nat) (d : DataW H) (r : List S23), el[i]? = some d → l[i]? = some r → (r = [] ∨ ∃ el2 es2, d = .slice el2 es2 ∧ el2.length = r.length)) := by
  obtain ⟨A, len, cap, rfl⟩ := okWide_slice Try.underlying35 hv
  obtain ⟨n, hf⟩ := h
  obtain ⟨A', c, l, e, h1, h2, h3⟩ := trod_rows hf
  simp [Value.cells] at e
  obtain ⟨rfl, rfl, rfl⟩ := e
  exact ⟨_, _, l, rfl, h1, h2, h3⟩
end Go.Proofs.Ytpfgjagpaddcpaa.Own

/-! How a job reads. -/
namespace Go.Proofs.Ytpfgjagpaddcpaa.Own
open Go.RowKit Go.Proofs.YtpfgjagpaddcpaaW.PrintWords
open Go.Proofs.Ytpfgjagpaddcpaa.X
open Go.ChangeShapes Go.WideShapes
set_option linter.unusedVariables false
set_option linter.unusedSimpArgs false

/-- What rings read as, by length. -/
def RowsData {H : Type} (d : DataW H) (l : List (List S23)) : Prop :=
  l = [] ∨ ∃ el es, d = .slice el es ∧ el.length = l.length ∧ ∀ (i : Nat) (d : DataW H) (r : List S23), el[i]? = some d → l[i]? = some r → (r = [] ∨ ∃ el2 es2, d = .slice el2 es2 ∧ el2.length = r.length)

theorem trod_job {H : Type} {enc : TypeId × Value → H} {W : World} {base : Nat} {sp : Nat → Bool} {held : Bool} {n : Nat} {cs : List Value} {x : DataW H × List MemPlace} (h : DataW.trod enc Try.prog W base sp held n 37 cs = some x) :
    ∃ (A : Option Addr) (ca : Nat) (la : List (List S23)) (B : Option Addr) (cb : Nat) (lb : List (List S23)) (o f r c : Int), cs = [.slice A la.length ca, .slice B lb.length cb, .int .i64 o, .int .i64 f, .int .i64 r, .int .i64 c] ∧
      la.length ≤ ca ∧ Kd.C (Kd.slice 23 k23) W A la.length la ∧ lb.length ≤ cb ∧ Kd.C (Kd.slice 23 k23) W B lb.length lb ∧ (∃ d1 d2 ds, x.1 = .agg (d1 :: d2 :: ds) ∧ RowsData d1 la ∧ RowsData d2 lb) := by
  obtain ⟨xs, m, _, rfl, hl, hlen, hf⟩ := DataW.trod_struct Try.underlying37 h
  rw [cells37] at hl
  match cs, hl with
  | [c0, c1, c2, c3, c4, c5], _ =>
    match xs, hlen with
    | [y0, y1, y2, y3, y4, y5], _ =>
      have h0 : DataW.trod enc Try.prog W base sp held m 35 (([c0, c1, c2, c3, c4, c5].drop 0).take (Try.prog.cellsOf 35)) = some y0 := hf 0 _ rfl
      have h1 : DataW.trod enc Try.prog W base sp held m 35 (([c0, c1, c2, c3, c4, c5].drop 1).take (Try.prog.cellsOf 35)) = some y1 := hf 1 _ rfl
      have h2 : DataW.trod enc Try.prog W base sp held m 3 (([c0, c1, c2, c3, c4, c5].drop 2).take (Try.prog.cellsOf 3)) = some y2 := hf 2 _ rfl
      have h3 : DataW.trod enc Try.prog W base sp held m 3 (([c0, c1, c2, c3, c4, c5].drop 3).take (Try.prog.cellsOf 3)) = some y3 := hf 3 _ rfl
      have h4 : DataW.trod enc Try.prog W base sp held m 3 (([c0, c1, c2, c3, c4, c5].drop 4).take (Try.prog.cellsOf 3)) = some y4 := hf 4 _ rfl
      have h5 : DataW.trod enc Try.prog W base sp held m 3 (([c0, c1, c2, c3, c4, c5].drop 5).take (Try.prog.cellsOf 3)) = some y5 := hf 5 _ rfl
      rw [cells35] at h0 h1
      rw [cells3] at h2 h3 h4 h5
      obtain ⟨A, ca, la, e0, hca, hA, hda⟩ := trod_rows h0
      obtain ⟨B, cb, lb, e1, hcb, hB, hdb⟩ := trod_rows h1
      obtain ⟨o, e2, _⟩ := trod_num h2
      obtain ⟨f, e3, _⟩ := trod_num h3
      obtain ⟨r, e4, _⟩ := trod_num h4
      obtain ⟨c, e5, _⟩ := trod_num h5
      simp at e0 e1 e2 e3 e4 e5
      exact ⟨A, ca, la, B, cb, lb, o, f, r, c, by rw [e0, e1, e2, e3, e4, e5], hca, hA, hcb, hB, y0.1, y1.1, _, rfl, hda, hdb⟩

theorem open_job {H : Type} {enc : TypeId × Value → H} {W : World} {b0 base : Nat} {sp : Nat → Bool} {v : Value} {d : DataW H} {p : List MemPlace} (hv : Value.okWide Try.prog W .any b0 37 v) (h : DataW.Trod enc Try.prog W base sp true 37 v d p) :
    ∃ (A : Option Addr) (ca : Nat) (la : List (List S23)) (B : Option Addr) (cb : Nat) (lb : List (List S23)) (o f r c : Int), v = .agg #[.slice A la.length ca, .slice B lb.length cb, .int .i64 o, .int .i64 f, .int .i64 r, .int .i64 c] ∧
      la.length ≤ ca ∧ Kd.C (Kd.slice 23 k23) W A la.length la ∧ lb.length ≤ cb ∧ Kd.C (Kd.slice 23 k23) W B lb.length lb ∧ (∃ d1 d2 ds, d = .agg (d1 :: d2 :: ds) ∧ RowsData d1 la ∧ RowsData d2 lb) := by
  obtain ⟨cs, rfl, _⟩ := okWide_struct Try.underlying37 hv
  obtain ⟨n, hf⟩ := h
  obtain ⟨A, ca, la, B, cb, lb, o, f, r, c, e, h1, h2, h3, h4, h5⟩ := trod_job hf
  exact ⟨A, ca, la, B, cb, lb, o, f, r, c, by rw [Array.ext' (show cs.toList = #[Value.slice A la.length ca, .slice B lb.length cb, .int .i64 o, .int .i64 f, .int .i64 r, .int .i64 c].toList from e)], h1, h2, h3, h4, h5⟩
end Go.Proofs.Ytpfgjagpaddcpaa.Own

/-! Which points are right; the closure that Area hands on; IndexFunc and ContainsFunc over it. -/
namespace Go.Proofs.Ytpfgjagpaddcpaa.Own
open Go.RowKit Go.Proofs.YtpfgjagpaddcpaaW.PrintWords Go.Proofs.YtpfgjagpaddcpaaW.PrintLast Go.Proofs.YtpfgjagpaddcpaaW.PrintMore
open Go.Proofs.Ytpfgjagpaddcpaa.X
set_option linter.unusedVariables false
set_option linter.unusedSimpArgs false

theorem cell_on {W w' : World} {a : Addr} {v : Value} (hb : Below W.heap.size W w') (h : W.cell? a = some v) : w'.cell? a = some v := (hb.cell (World.block_lt_of_cell? W _ h)).trans h

/-- A point as a value. -/
abbrev ptV (x y : Int) : Value := .agg #[.int .i64 x, .int .i64 y]

/-- Which points are right. -/
def rightB (x y : Int) : Bool := decide (-536870912 ≤ x ∧ x ≤ 536870912 ∧ -536870912 ≤ y ∧ y ≤ 536870912)

theorem right_f (x y : Int) : plane_Right.f x y = some (rightB x y) := by
  unfold plane_Right.f rightB
  by_cases h1 : x ≥ -536870912 <;> by_cases h2 : x ≤ 536870912 <;> by_cases h3 : y ≥ -536870912 <;> by_cases h4 : y ≤ 536870912 <;> simp [h1, h2, h3, h4] <;> omega

theorem right_any (x y : Int) (w : World) : Calls Try.prog 20 #[ptV x y] w fun e w' => e = .returned (.bool (rightB x y)) ∧ Below w.heap.size w w' :=
  plane_Right.calls x y _ w (right_f x y)

/-- Cross. -/
def crossB (ox oy ax ay bx by_ : Int) : Int :=
  if rightB ox oy = true ∧ rightB ax ay = true ∧ rightB bx by_ = true then (ax - ox) * (by_ - oy) - (ay - oy) * (bx - ox) else 0

theorem rightB_iff (x y : Int) : rightB x y = true ↔ (-536870912 ≤ x ∧ x ≤ 536870912 ∧ -536870912 ≤ y ∧ y ≤ 536870912) := by
  unfold rightB
  exact decide_eq_true_iff

theorem mul_bd {a b : Int} (ha : -1073741824 ≤ a ∧ a ≤ 1073741824) (hb : -1073741824 ≤ b ∧ b ≤ 1073741824) : -1152921504606846976 ≤ a * b ∧ a * b ≤ 1152921504606846976 := by
  have h1 : a.natAbs * b.natAbs ≤ 1073741824 * 1073741824 := Nat.mul_le_mul (by omega) (by omega)
  have h2 := Int.natAbs_mul a b
  omega

theorem cross_f (ox oy ax ay bx by_ : Int) : plane_Cross.f ox oy ax ay bx by_ = some (crossB ox oy ax ay bx by_) := by
  unfold plane_Cross.f crossB
  simp only [right_f, Option.bind_some]
  cases h1 : rightB ox oy with
  | false => simp
  | true =>
    cases h2 : rightB ax ay with
    | false => simp
    | true =>
      cases h3 : rightB bx by_ with
      | false => simp
      | true =>
        rw [rightB_iff] at h1 h2 h3
        simp only [if_true, and_self, Option.some.injEq]
        have e1 : wrap64 (ax - ox) = ax - ox := by unfold wrap64; omega
        have e2 : wrap64 (by_ - oy) = by_ - oy := by unfold wrap64; omega
        have e3 : wrap64 (ay - oy) = ay - oy := by unfold wrap64; omega
        have e4 : wrap64 (bx - ox) = bx - ox := by unfold wrap64; omega
        rw [e1, e2, e3, e4]
        have m1 := mul_bd (a := ax - ox) (b := by_ - oy) (by omega) (by omega)
        have m2 := mul_bd (a := ay - oy) (b := bx - ox) (by omega) (by omega)
        generalize (ax - ox) * (by_ - oy) = p at *
        generalize (ay - oy) * (bx - ox) = q at *
        have e5 : wrap64 p = p := by unfold wrap64; omega
        have e6 : wrap64 q = q := by unfold wrap64; omega
        rw [e5, e6]
        unfold wrap64
        omega

end Go.Proofs.Ytpfgjagpaddcpaa.Own

/-! The plane's functions as plain functions of numbers, and the triangle that each law of the plane asks for. -/
namespace Go.Proofs.Ytpfgjagpaddcpaa.Own
open Go.RowKit Go.Proofs.YtpfgjagpaddcpaaW.PrintWords Go.Proofs.YtpfgjagpaddcpaaW.PrintLast Go.Proofs.YtpfgjagpaddcpaaW.PrintMore
open Go.Proofs.Ytpfgjagpaddcpaa.X
set_option linter.unusedVariables false
set_option linter.unusedSimpArgs false

def sgn (n : Int) : Int := if n < 0 then -1 else if 0 < n then 1 else 0

theorem compare_f (a b : Int) : cmp_Compare_int.f a b = some (if a < b then -1 else if b < a then 1 else 0) := by
  simp only [cmp_Compare_int.f, cmp_isNaN_int.f, Option.bind_some, bne_self_eq_false]
  simp only [Bool.false_eq_true, if_false]
  split
  · rfl
  · split <;> rfl

theorem turn_f (ox oy ax ay bx by_ : Int) : plane_Turn.f ox oy ax ay bx by_ = some (sgn (crossB ox oy ax ay bx by_)) := by
  simp only [plane_Turn.f, cross_f, Option.bind_some, compare_f]
  rfl

theorem turn_any (ox oy ax ay bx by_ : Int) (w : World) : Calls Try.prog 23 #[ptV ox oy, ptV ax ay, ptV bx by_] w fun e w' => e = .returned (.int .i64 (sgn (crossB ox oy ax ay bx by_))) ∧ Below w.heap.size w w' :=
  plane_Turn.calls ox oy ax ay bx by_ _ w (turn_f ox oy ax ay bx by_)

def holdsB (lx ly hx hy px py : Int) : Bool := decide (lx ≤ px ∧ px ≤ hx ∧ ly ≤ py ∧ py ≤ hy)

theorem holds_f (lx ly hx hy px py : Int) : plane_Holds.f lx ly hx hy px py = some (holdsB lx ly hx hy px py) := by
  unfold plane_Holds.f holdsB
  by_cases h1 : px ≥ lx <;> by_cases h2 : px ≤ hx <;> by_cases h3 : py ≥ ly <;> by_cases h4 : py ≤ hy <;> simp [h1, h2, h3, h4] <;> omega

def onB (px py ax ay bx by_ : Int) : Bool :=
  rightB px py && (rightB ax ay && (rightB bx by_ && (decide (sgn (crossB ax ay bx by_ px py) = 0) && holdsB (mn ax bx) (mn ay by_) (mx ax bx) (mx ay by_) px py)))

theorem on_f (px py ax ay bx by_ : Int) : plane_On.f px py ax ay bx by_ = some (onB px py ax ay bx by_) := by
  simp only [plane_On.f, right_f, turn_f, plane_Around.f, holds_f, Option.bind_some, onB]
  by_cases h : sgn (crossB ax ay bx by_ px py) = 0 <;> cases rightB px py <;> cases rightB ax ay <;> cases rightB bx by_ <;> simp [h]

theorem on_any (px py ax ay bx by_ : Int) (w : World) : Calls Try.prog 26 #[ptV px py, ptV ax ay, ptV bx by_] w fun e w' => e = .returned (.bool (onB px py ax ay bx by_)) ∧ Below w.heap.size w w' :=
  plane_On.calls px py ax ay bx by_ _ w (on_f px py ax ay bx by_)

def samePt (l m : List S23) (j : Nat) : Bool := (l.getD j z23).f0 == (m.getD j z23).f0 && (l.getD j z23).f1 == (m.getD j z23).f1

def eqPts (l m : List S23) : Bool := decide (l.length = m.length ∧ ∀ j, j < l.length → samePt l m j = true)

/-- The cells of a row of points. -/
def flat (l : List S23) : List Value := l.flatMap fun p => [.int .i64 p.f0, .int .i64 p.f1]

theorem flat_get (l : List S23) : ∀ (j : Nat) (p : S23), l[j]? = some p → (flat l)[j * 2]? = some (.int .i64 p.f0) ∧ (flat l)[j * 2 + 1]? = some (.int .i64 p.f1) := by
  induction l with
  | nil => intro j p h; simp at h
  | cons q l ih =>
    intro j p h
    cases j with
    | zero =>
      simp at h
      subst h
      exact ⟨rfl, rfl⟩
    | succ j =>
      have h2 := ih j p (by simpa using h)
      have e : (j + 1) * 2 = j * 2 + 1 + 1 := by omega
      rw [e]
      exact h2

theorem addr_add (b n : Nat) : (⟨b, 0, none⟩ : Addr).add n = ⟨b, n, none⟩ := by
  unfold Addr.add
  split
  · rename_i h; rw [h]
  · simp

/-- A block that holds points, as a row of points. -/
theorem C_block {w : World} {b : Nat} {cs : Array Value} (l : List S23) (h : w.heap[b]? = some (.cells cs 23 (0, 0))) (hcs : cs.toList = flat l) (hn : l.length ≤ 9223372036854775807) : Kd.C k23 w (some ⟨b, 0, none⟩) l.length l := by
  refine ⟨rfl, hn, fun _ => ⟨_, rfl, fun j p hj => ⟨[.int .i64 p.f0, .int .i64 p.f1], rfl, k23_mk w p, fun i u hu => ?_⟩⟩⟩
  obtain ⟨h0, h1⟩ := flat_get l j p hj
  rw [addr_add]
  show w.cell? ⟨b, j * 2 + i, none⟩ = some u
  rw [blk_cell h, ← Array.getElem?_toList, hcs]
  match i, hu with
  | 0, hu => simp at hu; subst hu; exact h0
  | 1, hu => simp at hu; subst hu; exact h1
  | i + 2, hu => simp at hu

theorem cell0 {W : World} {b t : Nat} {cs : Array Value} {v : Value} (j : Nat) (h : W.heap[b]? = some (.cells cs t (0, 0))) (e : cs[j]? = some v) : W.cell? ⟨b, j, none⟩ = some v := (blk_cell h j).trans e

attribute [local go_sem high] eqA23

end Go.Proofs.Ytpfgjagpaddcpaa.Own

/-! The references of the plane: they answer as the plane does. -/
namespace Go.Proofs.Ytpfgjagpaddcpaa.Own
open Go.RowKit Go.Proofs.YtpfgjagpaddcpaaW.PrintWords Go.Proofs.YtpfgjagpaddcpaaW.PrintLast Go.Proofs.YtpfgjagpaddcpaaW.PrintMore
open Go.Proofs.Ytpfgjagpaddcpaa.X
set_option linter.unusedVariables false
set_option linter.unusedSimpArgs false

theorem refRight_f (x y : Int) : cobwebref04_Right.f x y = some (rightB x y) := by
  unfold cobwebref04_Right.f rightB
  by_cases h1 : x ≥ -536870912 <;> by_cases h2 : x ≤ 536870912 <;> by_cases h3 : y ≥ -536870912 <;> by_cases h4 : y ≤ 536870912 <;> simp [h1, h2, h3, h4] <;> omega

theorem refRight_any (x y : Int) (w : World) : Calls Try.prog 21 #[ptV x y] w fun e w' => e = .returned (.bool (rightB x y)) ∧ Below w.heap.size w w' :=
  cobwebref04_Right.calls x y _ w (refRight_f x y)

end Go.Proofs.Ytpfgjagpaddcpaa.Own

/-! A ring's edges, as a list: begun elsewhere they are the same, the other way round they are turned; sums over them. No program here. -/
namespace Go.Proofs.Ytpfgjagpaddcpaa.Own
open Go.Proofs.Ytpfgjagpaddcpaa.X
set_option linter.unusedVariables false
set_option linter.unusedSimpArgs false

/-- The steps of a path from a on. -/
def pth : S23 → List S23 → List (S23 × S23)
  | _, [] => []
  | a, b :: r => (a, b) :: pth b r

/-- A ring's edges, from its first point on, the last one to the first. -/
def edgs : List S23 → List (S23 × S23)
  | [] => []
  | a :: r => pth a (r ++ [a])

theorem pth_append (xs : List S23) : ∀ (a b : S23) (ys : List S23), pth a (xs ++ b :: ys) = pth a (xs ++ [b]) ++ pth b ys := by
  induction xs with
  | nil => intro a b ys; rfl
  | cons c xs ih => intro a b ys; simp [pth, ih c b ys]

theorem edgs_rot (u v : List S23) : (edgs (u ++ v)).Perm (edgs (v ++ u)) := by
  cases u with
  | nil => simp
  | cons a u =>
    cases v with
    | nil => simp
    | cons b v =>
      have h1 : edgs (a :: u ++ b :: v) = pth a (u ++ [b]) ++ pth b (v ++ [a]) := by
        show pth a ((u ++ b :: v) ++ [a]) = _
        rw [List.append_assoc, List.cons_append, pth_append]
      have h2 : edgs (b :: v ++ a :: u) = pth b (v ++ [a]) ++ pth a (u ++ [b]) := by
        show pth b ((v ++ a :: u) ++ [b]) = _
        rw [List.append_assoc, List.cons_append, pth_append]
      rw [h1, h2]
      exact List.perm_append_comm

def swp (e : S23 × S23) : S23 × S23 := (e.2, e.1)

theorem pth_rev (xs : List S23) : ∀ a b : S23, pth b (xs.reverse ++ [a]) = ((pth a (xs ++ [b])).map swp).reverse := by
  induction xs with
  | nil => intro a b; rfl
  | cons c xs ih =>
    intro a b
    have h1 : (c :: xs).reverse ++ [a] = xs.reverse ++ c :: [a] := by simp
    rw [h1, pth_append, ih c b]
    simp [pth, swp]

theorem edgs_rev (l : List S23) : (edgs l.reverse).Perm ((edgs l).map swp) := by
  cases l with
  | nil => exact List.Perm.refl _
  | cons a r =>
    have h1 : (a :: r).reverse = r.reverse ++ [a] := by simp
    rw [h1]
    refine (edgs_rot r.reverse [a]).trans ?_
    show (pth a (r.reverse ++ [a])).Perm _
    rw [pth_rev r a a]
    exact List.reverse_perm _

theorem pth_length (xs : List S23) : ∀ a : S23, (pth a xs).length = xs.length := by
  induction xs with
  | nil => intro a; rfl
  | cons c xs ih => intro a; simp [pth, ih c]

theorem edgs_length (l : List S23) : (edgs l).length = l.length := by
  cases l with
  | nil => rfl
  | cons a r => simp [edgs, pth_length]

theorem pth_get (xs : List S23) : ∀ (a : S23) (k : Nat), k < xs.length → (pth a xs)[k]? = some ((a :: xs).getD k z23, xs.getD k z23) := by
  induction xs with
  | nil => intro a k h; simp at h
  | cons c xs ih =>
    intro a k h
    cases k with
    | zero => simp [pth]
    | succ k =>
      have := ih c k (by simpa using h)
      simp only [pth, List.getElem?_cons_succ, List.getD_cons_succ]
      rw [this]

theorem edgs_get (l : List S23) (k : Nat) (h : k < l.length) : (edgs l)[k]? = some (l.getD k z23, l.getD ((k + 1) % l.length) z23) := by
  cases l with
  | nil => simp at h
  | cons a r =>
    show (pth a (r ++ [a]))[k]? = _
    rw [pth_get _ _ _ (by simpa using h)]
    have hk : k ≤ r.length := by simpa [Nat.lt_succ_iff] using h
    have e1 : (a :: (r ++ [a])).getD k z23 = (a :: r).getD k z23 := by
      rw [List.getD_eq_getElem?_getD, List.getD_eq_getElem?_getD]
      congr 1
      rw [← List.cons_append, List.getElem?_append_left h]
    have e2 : (r ++ [a]).getD k z23 = (a :: r).getD ((k + 1) % (a :: r).length) z23 := by
      rw [List.getD_eq_getElem?_getD, List.getD_eq_getElem?_getD]
      congr 1
      by_cases hk2 : k < r.length
      · rw [List.getElem?_append_left hk2, Nat.mod_eq_of_lt (by simp; omega)]
        simp
      · have : k = r.length := by omega
        subst this
        rw [List.getElem?_append_right (Nat.le_refl _)]
        have : (r.length + 1) % (a :: r).length = 0 := by simp
        rw [this]
        simp
    rw [e1, e2]

/-- The sum of f over edges. -/
def esum (f : S23 → S23 → Int) (es : List (S23 × S23)) : Int := (es.map fun e => f e.1 e.2).sum

theorem sum_perm {a b : List Int} (h : a.Perm b) : a.sum = b.sum := by
  induction h with
  | nil => rfl
  | cons x _ ih => simp only [List.sum_cons, ih]
  | swap x y l => simp only [List.sum_cons]; omega
  | trans _ _ ih1 ih2 => exact ih1.trans ih2

theorem esum_perm {f : S23 → S23 → Int} {a b : List (S23 × S23)} (h : a.Perm b) : esum f a = esum f b := by
  unfold esum
  exact sum_perm (h.map _)

theorem esum_rot (f : S23 → S23 → Int) (u v : List S23) : esum f (edgs (u ++ v)) = esum f (edgs (v ++ u)) := esum_perm (edgs_rot u v)

theorem esum_neg {f g : S23 → S23 → Int} (h : ∀ a b, f b a = - g a b) (es : List (S23 × S23)) : esum f (es.map swp) = - esum g es := by
  induction es with
  | nil => rfl
  | cons e es ih =>
    have h1 : esum f ((e :: es).map swp) = f e.2 e.1 + esum f (es.map swp) := rfl
    have h2 : esum g (e :: es) = g e.1 e.2 + esum g es := rfl
    rw [h1, h2, ih, h]
    omega

theorem esum_rev {f : S23 → S23 → Int} (h : ∀ a b, f b a = - f a b) (l : List S23) : esum f (edgs l.reverse) = - esum f (edgs l) := by
  rw [esum_perm (edgs_rev l), esum_neg h]

theorem esum_add (f g : S23 → S23 → Int) (es : List (S23 × S23)) : esum (fun a b => f a b + g a b) es = esum f es + esum g es := by
  unfold esum
  induction es with
  | nil => rfl
  | cons e es ih => simp only [List.map_cons, List.sum_cons, ih]; omega

theorem esum_app (f : S23 → S23 → Int) (a b : List (S23 × S23)) : esum f (a ++ b) = esum f a + esum f b := by
  unfold esum
  rw [List.map_append, List.sum_append]

theorem pth_tele (f : S23 → Int) (xs : List S23) : ∀ a b : S23, esum (fun p q => f q - f p) (pth a (xs ++ [b])) = f b - f a := by
  induction xs with
  | nil => intro a b; simp [pth, esum]
  | cons c xs ih =>
    intro a b
    have := ih c b
    simp only [List.cons_append, pth, esum, List.map_cons, List.sum_cons] at *
    omega

/-- Around a ring, what is told of points alone comes to nothing. -/
theorem edgs_tele (f : S23 → Int) (l : List S23) : esum (fun p q => f q - f p) (edgs l) = 0 := by
  cases l with
  | nil => rfl
  | cons a r =>
    show esum _ (pth a (r ++ [a])) = 0
    rw [pth_tele]
    omega

theorem any_perm {p : S23 × S23 → Bool} {a b : List (S23 × S23)} (h : a.Perm b) : a.any p = b.any p := by
  rw [Bool.eq_iff_iff, List.any_eq_true, List.any_eq_true]
  constructor
  · rintro ⟨x, hx, hp⟩; exact ⟨x, h.mem_iff.1 hx, hp⟩
  · rintro ⟨x, hx, hp⟩; exact ⟨x, h.mem_iff.2 hx, hp⟩

end Go.Proofs.Ytpfgjagpaddcpaa.Own

/-! Twice a point; what Wind reckons of rings' edges, plainly. -/
namespace Go.Proofs.Ytpfgjagpaddcpaa.Own
open Go.RowKit Go.Proofs.YtpfgjagpaddcpaaW.PrintWords Go.Proofs.YtpfgjagpaddcpaaW.PrintLast Go.Proofs.YtpfgjagpaddcpaaW.PrintMore
open Go.Proofs.Ytpfgjagpaddcpaa.X
set_option linter.unusedVariables false
set_option linter.unusedSimpArgs false

/-- input.twice. -/
def tw (p : S23) : S23 := if rightB p.f0 p.f1 = true then ⟨2 * p.f0, 2 * p.f1⟩ else ⟨1073741824, 0⟩

theorem twice_f (x y : Int) : input_twice.f x y = some ((tw ⟨x, y⟩).f0, (tw ⟨x, y⟩).f1) := by
  unfold input_twice.f tw
  rw [right_f, Option.bind_some]
  by_cases h : rightB x y = true
  · have h' := h
    rw [rightB_iff] at h'
    have e1 : wrap64 (2 * x) = 2 * x := by unfold wrap64; omega
    have e2 : wrap64 (2 * y) = 2 * y := by unfold wrap64; omega
    simp only [h, if_true, e1, e2]
  · simp only [h]
    rfl

theorem twice_any (x y : Int) (w : World) : Calls Try.prog 57 #[ptV x y] w fun e w' => e = .returned (ptV (tw ⟨x, y⟩).f0 (tw ⟨x, y⟩).f1) ∧ Below w.heap.size w w' :=
  input_twice.calls _ _ _ _ w (twice_f x y)

/-- Is the place on an edge; are its ends right. -/
def onE (x y : Int) (e : S23 × S23) : Bool := onB x y (tw e.1).f0 (tw e.1).f1 (tw e.2).f0 (tw e.2).f1
def okE (e : S23 × S23) : Bool := rightB (tw e.1).f0 (tw e.1).f1
/-- How an edge turns around the place. -/
def tuE (x y : Int) (e : S23 × S23) : Int := sgn (crossB (tw e.1).f0 (tw e.1).f1 (tw e.2).f0 (tw e.2).f1 x y)
def upE (x y : Int) (e : S23 × S23) : Bool := decide ((tw e.1).f1 ≤ y ∧ y < (tw e.2).f1 ∧ 0 < tuE x y e)
def dnE (x y : Int) (e : S23 × S23) : Bool := decide ((tw e.2).f1 ≤ y ∧ y < (tw e.1).f1 ∧ tuE x y e < 0)
/-- What an edge adds. -/
def wnE (x y : Int) (e : S23 × S23) : Int := if upE x y e = true then 1 else if dnE x y e = true then -1 else 0

theorem up_not_dn {x y : Int} {e : S23 × S23} (h : upE x y e = true) : dnE x y e = false := by
  unfold upE at h
  unfold dnE
  rw [decide_eq_true_eq] at h
  rw [decide_eq_false_iff_not]
  omega

def wsum (x y : Int) (es : List (S23 × S23)) : Int := (es.map (wnE x y)).sum

theorem wsum_snoc (x y : Int) (es : List (S23 × S23)) (e : S23 × S23) : wsum x y (es ++ [e]) = wsum x y es + wnE x y e := by
  simp [wsum]

theorem wnE_bd (x y : Int) (e : S23 × S23) : -1 ≤ wnE x y e ∧ wnE x y e ≤ 1 := by
  unfold wnE
  split
  · omega
  · split <;> omega

theorem wsum_bd (x y : Int) (es : List (S23 × S23)) : -(es.length : Int) ≤ wsum x y es ∧ wsum x y es ≤ (es.length : Int) := by
  induction es with
  | nil => simp [wsum]
  | cons e es ih =>
    have h := wnE_bd x y e
    have h2 : wsum x y (e :: es) = wnE x y e + wsum x y es := by simp [wsum]
    rw [h2]
    simp only [List.length_cons]
    omega

/-- Is all right. -/
def okAll (x y : Int) (es : List (S23 × S23)) : Bool := rightB x y && es.all okE
/-- input.Wind, of all edges. -/
def windN (x y : Int) (es : List (S23 × S23)) : Int := if okAll x y es = true then (if es.any (onE x y) = true then 0 else wsum x y es) else 0
def windO (x y : Int) (es : List (S23 × S23)) : Bool := okAll x y es && es.any (onE x y)

theorem okAll_snoc (x y : Int) (es : List (S23 × S23)) (e : S23 × S23) : okAll x y (es ++ [e]) = (okAll x y es && okE e) := by
  simp [okAll, Bool.and_assoc]
theorem onAny_snoc (x y : Int) (es : List (S23 × S23)) (e : S23 × S23) : (es ++ [e]).any (onE x y) = (es.any (onE x y) || onE x y e) := by
  simp

/-- All edges of rings. -/
def allE (ls : List (List S23)) : List (S23 × S23) := ls.flatMap edgs
theorem allE_take (ls : List (List S23)) (i : Nat) (h : i < ls.length) : allE (ls.take (i + 1)) = allE (ls.take i) ++ edgs (ls.getD i []) := by
  unfold allE
  rw [List.take_add_one, List.flatMap_append, List.getD_eq_getElem?_getD, List.getElem?_eq_getElem h]
  simp only [Option.toList_some, Option.getD_some, List.flatMap_cons, List.flatMap_nil, List.append_nil]
end Go.Proofs.Ytpfgjagpaddcpaa.Own

/-! What a printed function with fuel answers in the end. No program here. -/
namespace Go.Proofs.Ytpfgjagpaddcpaa.Own
open Go.RowKit Go.Proofs.YtpfgjagpaddcpaaW.PrintWords Go.Proofs.YtpfgjagpaddcpaaW.PrintLast Go.Proofs.YtpfgjagpaddcpaaW.PrintMore
open Go.Proofs.Ytpfgjagpaddcpaa.X
set_option linter.unusedVariables false
set_option linter.unusedSimpArgs false

/-- From some fuel on it is r. -/
def Ev {α : Type} (g : Nat → Option α) (r : α) : Prop := ∃ K, ∀ k, K ≤ k → g k = some r

theorem Ev.const {α : Type} (r : α) : Ev (fun _ => some r) r := ⟨0, fun _ _ => rfl⟩
theorem Ev.step {α : Type} {g h : Nat → Option α} {r : α} (hh : Ev h r) (e : ∀ k, g (k + 1) = h k) : Ev g r := by
  obtain ⟨K, hK⟩ := hh
  refine ⟨K + 1, fun k hk => ?_⟩
  obtain ⟨j, rfl⟩ : ∃ j, k = j + 1 := ⟨k - 1, by omega⟩
  rw [e, hK j (by omega)]
theorem Ev.congr {α : Type} {g h : Nat → Option α} {r : α} (hh : Ev h r) (e : ∀ k, g k = h k) : Ev g r := by
  obtain ⟨K, hK⟩ := hh
  exact ⟨K, fun k hk => (e k).trans (hK k hk)⟩
theorem Ev.bind {α β : Type} {g : Nat → Option α} {f : Nat → α → Option β} {a : α} {r : β} (hg : Ev g a) (hf : Ev (fun k => f k a) r) : Ev (fun k => (g k).bind (f k)) r := by
  obtain ⟨K, hK⟩ := hg
  obtain ⟨L, hL⟩ := hf
  refine ⟨K + L, fun k hk => ?_⟩
  show (g k).bind (f k) = some r
  rw [hK k (by omega), Option.bind_some]
  exact hL k (by omega)
theorem Ev.get {α : Type} {g : Nat → Option α} {r : α} (h : Ev g r) : ∃ k, g k = some r := by
  obtain ⟨K, hK⟩ := h
  exact ⟨K, hK K (Nat.le_refl _)⟩

theorem wrap_id {n : Int} (h : -9223372036854775808 ≤ n ∧ n ≤ 9223372036854775807) : wrap64 n = n := by unfold wrap64; omega

theorem getD_drop {α : Type} (ls : List α) (d : α) (i : Nat) (h : i < ls.length) : ls.drop i = ls.getD i d :: ls.drop (i + 1) := by
  rw [List.drop_eq_getElem_cons h]
  simp [List.getD_eq_getElem?_getD, h]

/-- How many points rings have. -/
def sumL (ls : List (List S23)) : Nat := (ls.map List.length).sum

theorem sumL_app (a b : List (List S23)) : sumL (a ++ b) = sumL a + sumL b := by simp [sumL]

theorem sumL_mem (ls : List (List S23)) : ∀ r ∈ ls, r.length ≤ sumL ls := by
  induction ls with
  | nil => intro r h; cases h
  | cons a ls ih =>
    intro r h
    have hs : sumL (a :: ls) = a.length + sumL ls := by simp [sumL]
    rcases List.mem_cons.1 h with rfl | h
    · omega
    · have := ih r h; omega

end Go.Proofs.Ytpfgjagpaddcpaa.Own
