import Derived.Test.YtpfgjagpaddcpaaBd1
import Derived.Deep.Heap
import Derived.RangeFuncBox
import Derived.Shelf.Abstract
import Derived.Shelf.RegionOpen
import Derived.WalkKit
import Derived.OwnWalkIn
import Derived.TacticsInMore
import Derived.LoopNIn
import Derived.LoopIn
import Derived.Sort.CutIn
/-! Part 2 of the texts that this law leans on, put together by a program of this session: X3 A1 A2 E1 F1 Wd0 X6 Wd1 Wd3 Wd2 C1 C2. -/
-- Printed by the kit's print.py for this seat (all laws in one set), called by this session.
namespace Go.Proofs.Ytpfgjagpaddcpaa.X
open Go.RowKit Go.Proofs.YtpfgjagpaddcpaaW.PrintWords Go.Proofs.YtpfgjagpaddcpaaW.PrintLast Go.Proofs.YtpfgjagpaddcpaaW.PrintMore
attribute [local go_sem] max2_int min2_int max_two min_two max_three min_three max_four min_four
set_option linter.unusedVariables false
set_option linter.unusedSimpArgs false

/-! ### plane_On: function 26 -/
def plane_On.f (a0_0 : Int) (a0_1 : Int) (a1_0 : Int) (a1_1 : Int) (a2_0 : Int) (a2_1 : Int) : Option (Bool) := (plane_Right.f a0_0 a0_1).bind fun t123 => (if t123 = true then ((plane_Right.f a1_0 a1_1).bind fun t124 => (if t124 = true then ((plane_Right.f a2_0 a2_1).bind fun t125 => (if t125 = true then ((plane_Turn.f a1_0 a1_1 a2_0 a2_1 a0_0 a0_1).bind fun t126 => (if t126 = 0 then ((plane_Around.f a1_0 a1_1 a2_0 a2_1).bind fun bt127 => ((plane_Holds.f bt127.1 bt127.2.1 bt127.2.2.1 bt127.2.2.2 a0_0 a0_1).bind fun t131 => (some t131))) else (some false))) else (some false))) else (some false))) else (some false))
def plane_On.T1 : Bool × List (List Nat × List Nat) := (true, [([], []), ([0], [0]), ([1, 1], [1]), ([2], [2]), ([3, 2, 2], [2, 3]), ([2, 4], [2, 4]), ([5, 4], [5]), ([6], [6]), ([7, 6, 6], [6, 7]), ([6, 8], [6, 8]), ([9, 8], [9]), ([10], [10]), ([10], [10]), ([10], [10]), ([11, 12, 13, 10, 10], [10, 11, 12, 13]), ([14, 10], [10, 14]), ([10, 15], [10, 15]), ([16, 14], [16]), ([17], [17]), ([17], [17]), ([18, 19, 17, 17], [17, 18, 19]), ([17], [17]), ([20, 21, 20, 17], [17, 20, 21]), ([17, 22], [17, 22]), ([23, 22, 0, 1, 2, 3, 4, 5, 6, 7, 8, 9, 10, 11, 12, 13, 14, 15, 16, 17, 18, 19, 20, 21, 22, 23], [23])])
def plane_On.B1 : List Nat := [0, 1, 3, 7, 15, 31, 63, 127, 255, 511, 1023, 2047, 2047, 2047, 16383, 32767, 65535, 131071, 262143, 262143, 1048575, 262143, 4194303, 8388607, 16777215]
theorem plane_On.tab1 : rtab .any (opsOf Try.f26 1) = plane_On.T1 := by kernel_rfl
theorem plane_On.bits1 : waitsOk plane_On.T1.2 plane_On.B1 = true := by kernel_rfl
set_option maxHeartbeats 8000000 in
set_option maxRecDepth 100000 in
theorem plane_On.calls (a0_0 : Int) (a0_1 : Int) (a1_0 : Int) (a1_1 : Int) (a2_0 : Int) (a2_1 : Int) (r : Bool) (w : World) (h : plane_On.f a0_0 a0_1 a1_0 a1_1 a2_0 a2_1 = some r) :
    Calls Try.prog 26 #[.agg #[.int .i64 a0_0, .int .i64 a0_1], .agg #[.int .i64 a1_0, .int .i64 a1_1], .agg #[.int .i64 a2_0, .int .i64 a2_1]] w fun e w' => e = .returned (.bool r) ∧ Below w.heap.size w w' := by
  have hu23 := Try.underlying23
  have HB := Aside0.mk (Below.refl w.heap.size w)
  have H : ((plane_Right.f a0_0 a0_1).bind fun t123 => (if t123 = true then ((plane_Right.f a1_0 a1_1).bind fun t124 => (if t124 = true then ((plane_Right.f a2_0 a2_1).bind fun t125 => (if t125 = true then ((plane_Turn.f a1_0 a1_1 a2_0 a2_1 a0_0 a0_1).bind fun t126 => (if t126 = 0 then ((plane_Around.f a1_0 a1_1 a2_0 a2_1).bind fun bt127 => ((plane_Holds.f bt127.1 bt127.2.1 bt127.2.2.1 bt127.2.2.2 a0_0 a0_1).bind fun t131 => (some t131))) else (some false))) else (some false))) else (some false))) else (some false))) = some r := h
  clear h
  replace H := Option.bind_eq_some_iff.mp H
  obtain ⟨t123, A40, H⟩ := H
  replace H : (if t123 = true then ((plane_Right.f a1_0 a1_1).bind fun t124 => (if t124 = true then ((plane_Right.f a2_0 a2_1).bind fun t125 => (if t125 = true then ((plane_Turn.f a1_0 a1_1 a2_0 a2_1 a0_0 a0_1).bind fun t126 => (if t126 = 0 then ((plane_Around.f a1_0 a1_1 a2_0 a2_1).bind fun bt127 => ((plane_Holds.f bt127.1 bt127.2.1 bt127.2.2.1 bt127.2.2.2 a0_0 a0_1).bind fun t131 => (some t131))) else (some false))) else (some false))) else (some false))) else (some false)) = some r := H
  have A4 := Aside0.mk A40
  clear A40
  by_cases c5 : t123 = true
  · subst c5
    have H1 : ((plane_Right.f a1_0 a1_1).bind fun t124 => (if t124 = true then ((plane_Right.f a2_0 a2_1).bind fun t125 => (if t125 = true then ((plane_Turn.f a1_0 a1_1 a2_0 a2_1 a0_0 a0_1).bind fun t126 => (if t126 = 0 then ((plane_Around.f a1_0 a1_1 a2_0 a2_1).bind fun bt127 => ((plane_Holds.f bt127.1 bt127.2.1 bt127.2.2.1 bt127.2.2.2 a0_0 a0_1).bind fun t131 => (some t131))) else (some false))) else (some false))) else (some false))) = some r := by rw [if_pos rfl] at H; exact H
    clear H
    have H := H1
    clear H1
    replace H := Option.bind_eq_some_iff.mp H
    obtain ⟨t124, A60, H⟩ := H
    replace H : (if t124 = true then ((plane_Right.f a2_0 a2_1).bind fun t125 => (if t125 = true then ((plane_Turn.f a1_0 a1_1 a2_0 a2_1 a0_0 a0_1).bind fun t126 => (if t126 = 0 then ((plane_Around.f a1_0 a1_1 a2_0 a2_1).bind fun bt127 => ((plane_Holds.f bt127.1 bt127.2.1 bt127.2.2.1 bt127.2.2.2 a0_0 a0_1).bind fun t131 => (some t131))) else (some false))) else (some false))) else (some false)) = some r := H
    have A6 := Aside0.mk A60
    clear A60
    by_cases c7 : t124 = true
    · subst c7
      have H1 : ((plane_Right.f a2_0 a2_1).bind fun t125 => (if t125 = true then ((plane_Turn.f a1_0 a1_1 a2_0 a2_1 a0_0 a0_1).bind fun t126 => (if t126 = 0 then ((plane_Around.f a1_0 a1_1 a2_0 a2_1).bind fun bt127 => ((plane_Holds.f bt127.1 bt127.2.1 bt127.2.2.1 bt127.2.2.2 a0_0 a0_1).bind fun t131 => (some t131))) else (some false))) else (some false))) = some r := by rw [if_pos rfl] at H; exact H
      clear H
      have H := H1
      clear H1
      replace H := Option.bind_eq_some_iff.mp H
      obtain ⟨t125, A80, H⟩ := H
      replace H : (if t125 = true then ((plane_Turn.f a1_0 a1_1 a2_0 a2_1 a0_0 a0_1).bind fun t126 => (if t126 = 0 then ((plane_Around.f a1_0 a1_1 a2_0 a2_1).bind fun bt127 => ((plane_Holds.f bt127.1 bt127.2.1 bt127.2.2.1 bt127.2.2.2 a0_0 a0_1).bind fun t131 => (some t131))) else (some false))) else (some false)) = some r := H
      have A8 := Aside0.mk A80
      clear A80
      by_cases c9 : t125 = true
      · subst c9
        have H1 : ((plane_Turn.f a1_0 a1_1 a2_0 a2_1 a0_0 a0_1).bind fun t126 => (if t126 = 0 then ((plane_Around.f a1_0 a1_1 a2_0 a2_1).bind fun bt127 => ((plane_Holds.f bt127.1 bt127.2.1 bt127.2.2.1 bt127.2.2.2 a0_0 a0_1).bind fun t131 => (some t131))) else (some false))) = some r := by rw [if_pos rfl] at H; exact H
        clear H
        have H := H1
        clear H1
        replace H := Option.bind_eq_some_iff.mp H
        obtain ⟨t126, A100, H⟩ := H
        replace H : (if t126 = 0 then ((plane_Around.f a1_0 a1_1 a2_0 a2_1).bind fun bt127 => ((plane_Holds.f bt127.1 bt127.2.1 bt127.2.2.1 bt127.2.2.2 a0_0 a0_1).bind fun t131 => (some t131))) else (some false)) = some r := H
        have A10 := Aside0.mk A100
        clear A100
        by_cases c11 : t126 = 0
        · rw [if_pos c11] at H
          have c11b0 : (t126 == 0) = true := beq_iff_eq.mpr c11
          have c11b1 : (t126 != 0) = false := bne_eq_false_iff_eq.mpr c11
          clear c11
          replace H := Option.bind_eq_some_iff.mp H
          obtain ⟨⟨t127, t128, t129, t130⟩, A120, H⟩ := H
          replace H : ((plane_Holds.f t127 t128 t129 t130 a0_0 a0_1).bind fun t131 => (some t131)) = some r := H
          have A12 := Aside0.mk A120
          clear A120
          replace H := Option.bind_eq_some_iff.mp H
          obtain ⟨t131, A130, H⟩ := H
          replace H : (some t131) = some r := H
          have A13 := Aside0.mk A130
          clear A130
          obtain rfl := Option.some.inj H
          go_enter Try.func26, Try.ntmps26
          try go_wp2_with (first | ((with_reducible refine gate_dst (N := 3) rfl ?_); refine box_event ?hg (N := 3) ?hd (cs := #[.int .i64 a0_0, .int .i64 a0_1]) (t := 23) ?hr ?_; (case hd => rfl); (case hg => rfl); (case hr => first | (go_simp; done) | (go_simp; rfl)); intro gb120 hg w14 hbox hb; have n0_ := Aside0.mk (below_step (by repeat (first | (with_reducible first | exact HB.out | apply below_alloc | apply pw_below_drewN | apply below_drew1) | exact HB.out)) hb); have n1_ := Aside0.mk (hbox); have n2_ := Aside0.mk ((by rw [hg]; exact (below_size (by repeat (first | (with_reducible first | exact HB.out | apply below_alloc | apply pw_below_drewN | apply below_drew1) | exact HB.out))) : w.heap.size ≤ gb120)); have n3_ := Aside0.mk ((by rw [hg]; exact (below_size (by repeat (first | (with_reducible first | exact HB.out | apply below_alloc | apply pw_below_drewN | apply below_drew1) | exact HB.out))) : w.heap.size ≤ gb120)); clear HB; have HB := n0_; have BK120 := n1_; have GW120 := n2_; have GE120 := n3_; clear n0_ n1_ n2_ n3_; clear hb hbox hg) | ((with_reducible refine gate_dst (N := 4) rfl ?_); refine box_event ?hg (N := 4) ?hd (cs := #[.int .i64 a1_0, .int .i64 a1_1]) (t := 23) ?hr ?_; (case hd => rfl); (case hg => rfl); (case hr => first | (go_simp; done) | (go_simp; rfl)); intro gb121 hg w15 hbox hb; have n0_ := Aside0.mk (blk_below (g := gb120) (o := .cells #[.int .i64 a0_0, .int .i64 a0_1] 23 (0, 0)) (by (with_reducible repeat (first | refine blk_drewN ?_ _ | refine blk_drew ?_ | refine blk_alloc ?_ _)); exact BK120.out) hb); have n1_ := Aside0.mk (below_step (by repeat (first | (with_reducible first | exact HB.out | apply below_alloc | apply pw_below_drewN | apply below_drew1 | refine below_set ?_ GE120.out) | exact HB.out)) hb); have n2_ := Aside0.mk (hbox); have n3_ := Aside0.mk ((by rw [hg]; exact (below_size (by repeat (first | (with_reducible first | exact HB.out | apply below_alloc | apply pw_below_drewN | apply below_drew1 | refine below_set ?_ GE120.out) | exact HB.out))) : w.heap.size ≤ gb121)); have n4_ := Aside0.mk ((by rw [hg]; exact (below_size (by repeat (first | (with_reducible first | exact HB.out | apply below_alloc | apply pw_below_drewN | apply below_drew1 | refine below_set ?_ GE120.out) | exact HB.out))) : w.heap.size ≤ gb121)); have n5_ := Aside0.mk ((by rw [hg]; exact Nat.ne_of_lt (blk_lt (g := gb120) (o := .cells #[.int .i64 a0_0, .int .i64 a0_1] 23 (0, 0)) (by (with_reducible repeat (first | refine blk_drewN ?_ _ | refine blk_drew ?_ | refine blk_alloc ?_ _)); exact BK120.out)) : gb120 ≠ gb121)); have n6_ := Aside0.mk ((by rw [hg]; exact Nat.ne_of_gt (blk_lt (g := gb120) (o := .cells #[.int .i64 a0_0, .int .i64 a0_1] 23 (0, 0)) (by (with_reducible repeat (first | refine blk_drewN ?_ _ | refine blk_drew ?_ | refine blk_alloc ?_ _)); exact BK120.out)) : gb121 ≠ gb120)); clear BK120; clear HB; have BK120 := n0_; have HB := n1_; have BK121 := n2_; have GW121 := n3_; have GE121 := n4_; have NB120_121 := n5_; have NB121_120 := n6_; clear n0_ n1_ n2_ n3_ n4_ n5_ n6_; clear hb hbox hg) | ((with_reducible refine gate_dst (N := 5) rfl ?_); refine box_event ?hg (N := 5) ?hd (cs := #[.int .i64 a2_0, .int .i64 a2_1]) (t := 23) ?hr ?_; (case hd => rfl); (case hg => rfl); (case hr => first | (go_simp; done) | (go_simp; rfl)); intro gb122 hg w16 hbox hb; have n0_ := Aside0.mk (blk_below (g := gb120) (o := .cells #[.int .i64 a0_0, .int .i64 a0_1] 23 (0, 0)) (by (with_reducible repeat (first | refine blk_drewN ?_ _ | refine blk_drew ?_ | refine blk_alloc ?_ _)); exact BK120.out) hb); have n1_ := Aside0.mk (blk_below (g := gb121) (o := .cells #[.int .i64 a1_0, .int .i64 a1_1] 23 (0, 0)) (by (with_reducible repeat (first | refine blk_drewN ?_ _ | refine blk_drew ?_ | refine blk_alloc ?_ _)); exact BK121.out) hb); have n2_ := Aside0.mk (below_step (by repeat (first | (with_reducible first | exact HB.out | apply below_alloc | apply pw_below_drewN | apply below_drew1 | refine below_set ?_ GE120.out | refine below_set ?_ GE121.out) | exact HB.out)) hb); have n3_ := Aside0.mk (hbox); have n4_ := Aside0.mk ((by rw [hg]; exact (below_size (by repeat (first | (with_reducible first | exact HB.out | apply below_alloc | apply pw_below_drewN | apply below_drew1 | refine below_set ?_ GE120.out | refine below_set ?_ GE121.out) | exact HB.out))) : w.heap.size ≤ gb122)); have n5_ := Aside0.mk ((by rw [hg]; exact (below_size (by repeat (first | (with_reducible first | exact HB.out | apply below_alloc | apply pw_below_drewN | apply below_drew1 | refine below_set ?_ GE120.out | refine below_set ?_ GE121.out) | exact HB.out))) : w.heap.size ≤ gb122)); have n6_ := Aside0.mk ((by rw [hg]; exact Nat.ne_of_lt (blk_lt (g := gb120) (o := .cells #[.int .i64 a0_0, .int .i64 a0_1] 23 (0, 0)) (by (with_reducible repeat (first | refine blk_drewN ?_ _ | refine blk_drew ?_ | refine blk_alloc ?_ _)); exact BK120.out)) : gb120 ≠ gb122)); have n7_ := Aside0.mk ((by rw [hg]; exact Nat.ne_of_gt (blk_lt (g := gb120) (o := .cells #[.int .i64 a0_0, .int .i64 a0_1] 23 (0, 0)) (by (with_reducible repeat (first | refine blk_drewN ?_ _ | refine blk_drew ?_ | refine blk_alloc ?_ _)); exact BK120.out)) : gb122 ≠ gb120)); have n8_ := Aside0.mk ((by rw [hg]; exact Nat.ne_of_lt (blk_lt (g := gb121) (o := .cells #[.int .i64 a1_0, .int .i64 a1_1] 23 (0, 0)) (by (with_reducible repeat (first | refine blk_drewN ?_ _ | refine blk_drew ?_ | refine blk_alloc ?_ _)); exact BK121.out)) : gb121 ≠ gb122)); have n9_ := Aside0.mk ((by rw [hg]; exact Nat.ne_of_gt (blk_lt (g := gb121) (o := .cells #[.int .i64 a1_0, .int .i64 a1_1] 23 (0, 0)) (by (with_reducible repeat (first | refine blk_drewN ?_ _ | refine blk_drew ?_ | refine blk_alloc ?_ _)); exact BK121.out)) : gb122 ≠ gb121)); clear BK120; clear BK121; clear HB; have BK120 := n0_; have BK121 := n1_; have HB := n2_; have BK122 := n3_; have GW122 := n4_; have GE122 := n5_; have NB120_122 := n6_; have NB122_120 := n7_; have NB121_122 := n8_; have NB122_121 := n9_; clear n0_ n1_ n2_ n3_ n4_ n5_ n6_ n7_ n8_ n9_; clear hb hbox hg))
          have n0_ := Aside0.mk (blk_drew BK120.out)
          have n1_ := Aside0.mk (blk_drew BK121.out)
          have n2_ := Aside0.mk (blk_drew BK122.out)
          have n3_ := Aside0.mk (below_drew1 HB.out)
          clear BK120
          clear BK121
          clear BK122
          clear HB
          have BK120 := n0_
          have BK121 := n1_
          have BK122 := n2_
          have HB := n3_
          clear n0_ n1_ n2_ n3_
          refine start_ (n := 25) (S := fun w' => w'.cell? ⟨gb120, 0, none⟩ = some (.int .i64 a0_0) ∧ w'.cell? ⟨gb120, 1, none⟩ = some (.int .i64 a0_1) ∧ w'.cell? ⟨gb121, 0, none⟩ = some (.int .i64 a1_0) ∧ w'.cell? ⟨gb121, 1, none⟩ = some (.int .i64 a1_1) ∧ w'.cell? ⟨gb122, 0, none⟩ = some (.int .i64 a2_0) ∧ w'.cell? ⟨gb122, 1, none⟩ = some (.int .i64 a2_1)) (ds := []) #[false, false, false, false, false, false, false, false, false, false, false, false, false, false, false, false, false, false, false, false, false, false, false, false, false] (by kernel_rfl) rfl rfl ⟨(blk_cell BK120.out 0).trans rfl, (blk_cell BK120.out 1).trans rfl, (blk_cell BK121.out 0).trans rfl, (blk_cell BK121.out 1).trans rfl, (blk_cell BK122.out 0).trans rfl, (blk_cell BK122.out 1).trans rfl⟩ (fun hHeld => ?_); refine with_tabW plane_On.tab1 plane_On.bits1 (fun HT_ HW_ => ?_)
          generalize w16.drew = w17 at BK120 BK121 BK122 HB hHeld ⊢
          refine take_ (i := 0) (N := some 7) (v := ?_) (a' := ?_) #[true, false, false, false, false, false, false, false, false, false, false, false, false, false, false, false, false, false, false, false, false, false, false, false, false] rfl rfl (take_ofW HT_.out HW_.out (by kernel_rfl)) (fun _ _ _ h => h) (Or.inl ⟨by rfl, ?_⟩) hHeld ?_ ?_
          rotate_left
          · rintro w' ⟨s0, s1, s2, s3, s4, s5⟩
            go_simp
            with_reducible rfl
          rotate_left
          · simp only [Act.put, List.setIfInBounds_toArray, List.set_cons_zero, List.set_cons_succ, i64_w, i32_w]
            rfl
          refine one_ (i := 1) (N := some 8) #[true, true, false, false, false, false, false, false, false, false, false, false, false, false, false, false, false, false, false, false, false, false, false, false, false] rfl rfl (one_of HT_.out (by kernel_rfl)) (by decide) (fun K hK => ?_)
          refine goes_ Try.func20 (by kernel_rfl) rfl #[.agg #[.int .i64 a0_0, .int .i64 a0_1]] (by rfl) rfl rfl (by (try simp only [List.map_toArray, List.map_cons, List.map_nil]); first | done | rfl | (simp only [List.length_drop, List.length_take]; rfl)) ?_
          with_reducible refine (plane_Right.calls a0_0 a0_1 true _ A4.out).mono ?_
          rintro e w18 ⟨rfl, hb⟩
          refine ⟨_, rfl, ?_⟩
          have n0_ := Aside0.mk (blk_below (g := gb120) (o := .cells #[.int .i64 a0_0, .int .i64 a0_1] 23 (0, 0)) (by (with_reducible repeat (first | refine blk_drewN ?_ _ | refine blk_drew ?_ | refine blk_alloc ?_ _)); exact BK120.out) hb)
          have n1_ := Aside0.mk (blk_below (g := gb121) (o := .cells #[.int .i64 a1_0, .int .i64 a1_1] 23 (0, 0)) (by (with_reducible repeat (first | refine blk_drewN ?_ _ | refine blk_drew ?_ | refine blk_alloc ?_ _)); exact BK121.out) hb)
          have n2_ := Aside0.mk (blk_below (g := gb122) (o := .cells #[.int .i64 a2_0, .int .i64 a2_1] 23 (0, 0)) (by (with_reducible repeat (first | refine blk_drewN ?_ _ | refine blk_drew ?_ | refine blk_alloc ?_ _)); exact BK122.out) hb)
          have n3_ := Aside0.mk (below_step (by repeat (first | (with_reducible first | exact HB.out | apply below_alloc | apply pw_below_drewN | apply below_drew1 | refine below_set ?_ GE120.out | refine below_set ?_ GE121.out | refine below_set ?_ GE122.out) | exact HB.out)) hb)
          clear BK120
          clear BK121
          clear BK122
          clear HB
          have BK120 := n0_
          have BK121 := n1_
          have BK122 := n2_
          have HB := n3_
          clear n0_ n1_ n2_ n3_
          (try clear hb)
          (try clear hb2)
          (try clear hk)
          (try clear hi)
          refine hK.out _ _ ⟨(blk_cell BK120.out 0).trans rfl, (blk_cell BK120.out 1).trans rfl, (blk_cell BK121.out 0).trans rfl, (blk_cell BK121.out 1).trans rfl, (blk_cell BK122.out 0).trans rfl, (blk_cell BK122.out 1).trans rfl⟩ (fun hHeld => ?_)
          clear hK K
          refine norm_ (a' := ?_) ?_ ?_
          rotate_left
          · show Act.put _ (some 8) _ = _
            simp only [Act.put, List.setIfInBounds_toArray, List.set_cons_zero, List.set_cons_succ, i64_w, i32_w]
            rfl
          refine pure_ (i := 2) (N := some 9) (v := ?_) (a' := ?_) #[true, true, true, false, false, false, false, false, false, false, false, false, false, false, false, false, false, false, false, false, false, false, false, false, false] rfl rfl (any_of HT_.out (by kernel_rfl)) (fun _ _ _ h => h) (Or.inl ⟨by rfl, ?_⟩) ?_ ?_
          rotate_left
          · intro w'
            go_simp
            with_reducible rfl
          rotate_left
          · simp only [Act.put, List.setIfInBounds_toArray, List.set_cons_zero, List.set_cons_succ, i64_w, i32_w]
            rfl
          refine take_ (i := 3) (N := some 10) (v := ?_) (a' := ?_) #[true, true, true, true, false, false, false, false, false, false, false, false, false, false, false, false, false, false, false, false, false, false, false, false, false] rfl rfl (take_ofW HT_.out HW_.out (by kernel_rfl)) (fun _ _ _ h => h) (Or.inl ⟨by rfl, ?_⟩) hHeld ?_ ?_
          rotate_left
          · rintro w' ⟨s0, s1, s2, s3, s4, s5⟩
            go_simp
            with_reducible rfl
          rotate_left
          · simp only [Act.put, List.setIfInBounds_toArray, List.set_cons_zero, List.set_cons_succ, i64_w, i32_w]
            rfl
          refine one_ (i := 4) (N := some 11) #[true, true, true, true, true, false, false, false, false, false, false, false, false, false, false, false, false, false, false, false, false, false, false, false, false] rfl rfl (one_of HT_.out (by kernel_rfl)) (by decide) (fun K hK => ?_)
          refine goes_ Try.func20 (by kernel_rfl) rfl #[.agg #[.int .i64 a1_0, .int .i64 a1_1]] (by rfl) rfl rfl (by (try simp only [List.map_toArray, List.map_cons, List.map_nil]); first | done | rfl | (simp only [List.length_drop, List.length_take]; rfl)) ?_
          with_reducible refine (plane_Right.calls a1_0 a1_1 true _ A6.out).mono ?_
          rintro e w19 ⟨rfl, hb⟩
          refine ⟨_, rfl, ?_⟩
          have n0_ := Aside0.mk (blk_below (g := gb120) (o := .cells #[.int .i64 a0_0, .int .i64 a0_1] 23 (0, 0)) (by (with_reducible repeat (first | refine blk_drewN ?_ _ | refine blk_drew ?_ | refine blk_alloc ?_ _)); exact BK120.out) hb)
          have n1_ := Aside0.mk (blk_below (g := gb121) (o := .cells #[.int .i64 a1_0, .int .i64 a1_1] 23 (0, 0)) (by (with_reducible repeat (first | refine blk_drewN ?_ _ | refine blk_drew ?_ | refine blk_alloc ?_ _)); exact BK121.out) hb)
          have n2_ := Aside0.mk (blk_below (g := gb122) (o := .cells #[.int .i64 a2_0, .int .i64 a2_1] 23 (0, 0)) (by (with_reducible repeat (first | refine blk_drewN ?_ _ | refine blk_drew ?_ | refine blk_alloc ?_ _)); exact BK122.out) hb)
          have n3_ := Aside0.mk (below_step (by repeat (first | (with_reducible first | exact HB.out | apply below_alloc | apply pw_below_drewN | apply below_drew1 | refine below_set ?_ GE120.out | refine below_set ?_ GE121.out | refine below_set ?_ GE122.out) | exact HB.out)) hb)
          clear BK120
          clear BK121
          clear BK122
          clear HB
          have BK120 := n0_
          have BK121 := n1_
          have BK122 := n2_
          have HB := n3_
          clear n0_ n1_ n2_ n3_
          (try clear hb)
          (try clear hb2)
          (try clear hk)
          (try clear hi)
          refine hK.out _ _ ⟨(blk_cell BK120.out 0).trans rfl, (blk_cell BK120.out 1).trans rfl, (blk_cell BK121.out 0).trans rfl, (blk_cell BK121.out 1).trans rfl, (blk_cell BK122.out 0).trans rfl, (blk_cell BK122.out 1).trans rfl⟩ (fun hHeld => ?_)
          clear hK K
          refine norm_ (a' := ?_) ?_ ?_
          rotate_left
          · show Act.put _ (some 11) _ = _
            simp only [Act.put, List.setIfInBounds_toArray, List.set_cons_zero, List.set_cons_succ, i64_w, i32_w]
            rfl
          refine pure_ (i := 5) (N := some 12) (v := ?_) (a' := ?_) #[true, true, true, true, true, true, false, false, false, false, false, false, false, false, false, false, false, false, false, false, false, false, false, false, false] rfl rfl (any_of HT_.out (by kernel_rfl)) (fun _ _ _ h => h) (Or.inl ⟨by rfl, ?_⟩) ?_ ?_
          rotate_left
          · intro w'
            go_simp
            with_reducible rfl
          rotate_left
          · simp only [Act.put, List.setIfInBounds_toArray, List.set_cons_zero, List.set_cons_succ, i64_w, i32_w]
            rfl
          refine pure_ (i := 6) (N := some 13) (v := ?_) (a' := ?_) #[true, true, true, true, true, true, true, false, false, false, false, false, false, false, false, false, false, false, false, false, false, false, false, false, false] rfl rfl (any_of HT_.out (by kernel_rfl)) (fun _ _ _ h => h) (Or.inl ⟨by rfl, ?_⟩) ?_ ?_
          rotate_left
          · intro w'
            go_simp
            with_reducible rfl
          rotate_left
          · simp only [Act.put, List.setIfInBounds_toArray, List.set_cons_zero, List.set_cons_succ, i64_w, i32_w]
            rfl
          refine take_ (i := 7) (N := some 14) (v := ?_) (a' := ?_) #[true, true, true, true, true, true, true, true, false, false, false, false, false, false, false, false, false, false, false, false, false, false, false, false, false] rfl rfl (take_ofW HT_.out HW_.out (by kernel_rfl)) (fun _ _ _ h => h) (Or.inl ⟨by rfl, ?_⟩) hHeld ?_ ?_
          rotate_left
          · rintro w' ⟨s0, s1, s2, s3, s4, s5⟩
            go_simp
            with_reducible rfl
          rotate_left
          · simp only [Act.put, List.setIfInBounds_toArray, List.set_cons_zero, List.set_cons_succ, i64_w, i32_w]
            rfl
          refine one_ (i := 8) (N := some 15) #[true, true, true, true, true, true, true, true, true, false, false, false, false, false, false, false, false, false, false, false, false, false, false, false, false] rfl rfl (one_of HT_.out (by kernel_rfl)) (by decide) (fun K hK => ?_)
          refine goes_ Try.func20 (by kernel_rfl) rfl #[.agg #[.int .i64 a2_0, .int .i64 a2_1]] (by rfl) rfl rfl (by (try simp only [List.map_toArray, List.map_cons, List.map_nil]); first | done | rfl | (simp only [List.length_drop, List.length_take]; rfl)) ?_
          with_reducible refine (plane_Right.calls a2_0 a2_1 true _ A8.out).mono ?_
          rintro e w20 ⟨rfl, hb⟩
          refine ⟨_, rfl, ?_⟩
          have n0_ := Aside0.mk (blk_below (g := gb120) (o := .cells #[.int .i64 a0_0, .int .i64 a0_1] 23 (0, 0)) (by (with_reducible repeat (first | refine blk_drewN ?_ _ | refine blk_drew ?_ | refine blk_alloc ?_ _)); exact BK120.out) hb)
          have n1_ := Aside0.mk (blk_below (g := gb121) (o := .cells #[.int .i64 a1_0, .int .i64 a1_1] 23 (0, 0)) (by (with_reducible repeat (first | refine blk_drewN ?_ _ | refine blk_drew ?_ | refine blk_alloc ?_ _)); exact BK121.out) hb)
          have n2_ := Aside0.mk (blk_below (g := gb122) (o := .cells #[.int .i64 a2_0, .int .i64 a2_1] 23 (0, 0)) (by (with_reducible repeat (first | refine blk_drewN ?_ _ | refine blk_drew ?_ | refine blk_alloc ?_ _)); exact BK122.out) hb)
          have n3_ := Aside0.mk (below_step (by repeat (first | (with_reducible first | exact HB.out | apply below_alloc | apply pw_below_drewN | apply below_drew1 | refine below_set ?_ GE120.out | refine below_set ?_ GE121.out | refine below_set ?_ GE122.out) | exact HB.out)) hb)
          clear BK120
          clear BK121
          clear BK122
          clear HB
          have BK120 := n0_
          have BK121 := n1_
          have BK122 := n2_
          have HB := n3_
          clear n0_ n1_ n2_ n3_
          (try clear hb)
          (try clear hb2)
          (try clear hk)
          (try clear hi)
          refine hK.out _ _ ⟨(blk_cell BK120.out 0).trans rfl, (blk_cell BK120.out 1).trans rfl, (blk_cell BK121.out 0).trans rfl, (blk_cell BK121.out 1).trans rfl, (blk_cell BK122.out 0).trans rfl, (blk_cell BK122.out 1).trans rfl⟩ (fun hHeld => ?_)
          clear hK K
          refine norm_ (a' := ?_) ?_ ?_
          rotate_left
          · show Act.put _ (some 15) _ = _
            simp only [Act.put, List.setIfInBounds_toArray, List.set_cons_zero, List.set_cons_succ, i64_w, i32_w]
            rfl
          refine pure_ (i := 9) (N := some 16) (v := ?_) (a' := ?_) #[true, true, true, true, true, true, true, true, true, true, false, false, false, false, false, false, false, false, false, false, false, false, false, false, false] rfl rfl (any_of HT_.out (by kernel_rfl)) (fun _ _ _ h => h) (Or.inl ⟨by rfl, ?_⟩) ?_ ?_
          rotate_left
          · intro w'
            go_simp
            with_reducible rfl
          rotate_left
          · simp only [Act.put, List.setIfInBounds_toArray, List.set_cons_zero, List.set_cons_succ, i64_w, i32_w]
            rfl
          refine pure_ (i := 10) (N := some 17) (v := ?_) (a' := ?_) #[true, true, true, true, true, true, true, true, true, true, true, false, false, false, false, false, false, false, false, false, false, false, false, false, false] rfl rfl (any_of HT_.out (by kernel_rfl)) (fun _ _ _ h => h) (Or.inl ⟨by rfl, ?_⟩) ?_ ?_
          rotate_left
          · intro w'
            go_simp
            with_reducible rfl
          rotate_left
          · simp only [Act.put, List.setIfInBounds_toArray, List.set_cons_zero, List.set_cons_succ, i64_w, i32_w]
            rfl
          refine take_ (i := 11) (N := some 18) (v := ?_) (a' := ?_) #[true, true, true, true, true, true, true, true, true, true, true, true, false, false, false, false, false, false, false, false, false, false, false, false, false] rfl rfl (take_ofW HT_.out HW_.out (by kernel_rfl)) (fun _ _ _ h => h) (Or.inl ⟨by rfl, ?_⟩) hHeld ?_ ?_
          rotate_left
          · rintro w' ⟨s0, s1, s2, s3, s4, s5⟩
            go_simp
            with_reducible rfl
          rotate_left
          · simp only [Act.put, List.setIfInBounds_toArray, List.set_cons_zero, List.set_cons_succ, i64_w, i32_w]
            rfl
          refine take_ (i := 12) (N := some 19) (v := ?_) (a' := ?_) #[true, true, true, true, true, true, true, true, true, true, true, true, true, false, false, false, false, false, false, false, false, false, false, false, false] rfl rfl (take_ofW HT_.out HW_.out (by kernel_rfl)) (fun _ _ _ h => h) (Or.inl ⟨by rfl, ?_⟩) hHeld ?_ ?_
          rotate_left
          · rintro w' ⟨s0, s1, s2, s3, s4, s5⟩
            go_simp
            with_reducible rfl
          rotate_left
          · simp only [Act.put, List.setIfInBounds_toArray, List.set_cons_zero, List.set_cons_succ, i64_w, i32_w]
            rfl
          refine take_ (i := 13) (N := some 20) (v := ?_) (a' := ?_) #[true, true, true, true, true, true, true, true, true, true, true, true, true, true, false, false, false, false, false, false, false, false, false, false, false] rfl rfl (take_ofW HT_.out HW_.out (by kernel_rfl)) (fun _ _ _ h => h) (Or.inl ⟨by rfl, ?_⟩) hHeld ?_ ?_
          rotate_left
          · rintro w' ⟨s0, s1, s2, s3, s4, s5⟩
            go_simp
            with_reducible rfl
          rotate_left
          · simp only [Act.put, List.setIfInBounds_toArray, List.set_cons_zero, List.set_cons_succ, i64_w, i32_w]
            rfl
          refine one_ (i := 14) (N := some 21) #[true, true, true, true, true, true, true, true, true, true, true, true, true, true, true, false, false, false, false, false, false, false, false, false, false] rfl rfl (one_of HT_.out (by kernel_rfl)) (by decide) (fun K hK => ?_)
          refine goes_ Try.func23 (by kernel_rfl) rfl #[.agg #[.int .i64 a1_0, .int .i64 a1_1], .agg #[.int .i64 a2_0, .int .i64 a2_1], .agg #[.int .i64 a0_0, .int .i64 a0_1]] (by rfl) rfl rfl (by (try simp only [List.map_toArray, List.map_cons, List.map_nil]); first | done | rfl | (simp only [List.length_drop, List.length_take]; rfl)) ?_
          with_reducible refine (plane_Turn.calls a1_0 a1_1 a2_0 a2_1 a0_0 a0_1 t126 _ A10.out).mono ?_
          rintro e w21 ⟨rfl, hb⟩
          refine ⟨_, rfl, ?_⟩
          have n0_ := Aside0.mk (blk_below (g := gb120) (o := .cells #[.int .i64 a0_0, .int .i64 a0_1] 23 (0, 0)) (by (with_reducible repeat (first | refine blk_drewN ?_ _ | refine blk_drew ?_ | refine blk_alloc ?_ _)); exact BK120.out) hb)
          have n1_ := Aside0.mk (blk_below (g := gb121) (o := .cells #[.int .i64 a1_0, .int .i64 a1_1] 23 (0, 0)) (by (with_reducible repeat (first | refine blk_drewN ?_ _ | refine blk_drew ?_ | refine blk_alloc ?_ _)); exact BK121.out) hb)
          have n2_ := Aside0.mk (blk_below (g := gb122) (o := .cells #[.int .i64 a2_0, .int .i64 a2_1] 23 (0, 0)) (by (with_reducible repeat (first | refine blk_drewN ?_ _ | refine blk_drew ?_ | refine blk_alloc ?_ _)); exact BK122.out) hb)
          have n3_ := Aside0.mk (below_step (by repeat (first | (with_reducible first | exact HB.out | apply below_alloc | apply pw_below_drewN | apply below_drew1 | refine below_set ?_ GE120.out | refine below_set ?_ GE121.out | refine below_set ?_ GE122.out) | exact HB.out)) hb)
          clear BK120
          clear BK121
          clear BK122
          clear HB
          have BK120 := n0_
          have BK121 := n1_
          have BK122 := n2_
          have HB := n3_
          clear n0_ n1_ n2_ n3_
          (try clear hb)
          (try clear hb2)
          (try clear hk)
          (try clear hi)
          refine hK.out _ _ ⟨(blk_cell BK120.out 0).trans rfl, (blk_cell BK120.out 1).trans rfl, (blk_cell BK121.out 0).trans rfl, (blk_cell BK121.out 1).trans rfl, (blk_cell BK122.out 0).trans rfl, (blk_cell BK122.out 1).trans rfl⟩ (fun hHeld => ?_)
          clear hK K
          refine norm_ (a' := ?_) ?_ ?_
          rotate_left
          · show Act.put _ (some 21) _ = _
            simp only [Act.put, List.setIfInBounds_toArray, List.set_cons_zero, List.set_cons_succ, i64_w, i32_w]
            rfl
          refine pure_ (i := 15) (N := some 22) (v := ?_) (a' := ?_) #[true, true, true, true, true, true, true, true, true, true, true, true, true, true, true, true, false, false, false, false, false, false, false, false, false] rfl rfl (any_of HT_.out (by kernel_rfl)) (fun _ _ _ h => h) (Or.inl ⟨by rfl, ?_⟩) ?_ ?_
          rotate_left
          · intro w'
            go_simp
            with_reducible rfl
          rotate_left
          · simp only [Act.put, List.setIfInBounds_toArray, List.set_cons_zero, List.set_cons_succ, i64_w, i32_w]
            rfl
          refine pure_ (i := 16) (N := some 23) (v := ?_) (a' := ?_) #[true, true, true, true, true, true, true, true, true, true, true, true, true, true, true, true, true, false, false, false, false, false, false, false, false] rfl rfl (any_of HT_.out (by kernel_rfl)) (fun _ _ _ h => h) (Or.inl ⟨by rfl, ?_⟩) ?_ ?_
          rotate_left
          · intro w'
            go_simp
            with_reducible rfl
          rotate_left
          · simp only [Act.put, List.setIfInBounds_toArray, List.set_cons_zero, List.set_cons_succ, i64_w, i32_w]
            rfl
          refine pure_ (i := 17) (N := some 24) (v := ?_) (a' := ?_) #[true, true, true, true, true, true, true, true, true, true, true, true, true, true, true, true, true, true, false, false, false, false, false, false, false] rfl rfl (any_of HT_.out (by kernel_rfl)) (fun _ _ _ h => h) (Or.inl ⟨by rfl, ?_⟩) ?_ ?_
          rotate_left
          · intro w'
            go_simp
            with_reducible rfl
          rotate_left
          · simp only [Act.put, List.setIfInBounds_toArray, List.set_cons_zero, List.set_cons_succ, i64_w, i32_w]
            rfl
          refine take_ (i := 18) (N := some 25) (v := ?_) (a' := ?_) #[true, true, true, true, true, true, true, true, true, true, true, true, true, true, true, true, true, true, true, false, false, false, false, false, false] rfl rfl (take_ofW HT_.out HW_.out (by kernel_rfl)) (fun _ _ _ h => h) (Or.inl ⟨by rfl, ?_⟩) hHeld ?_ ?_
          rotate_left
          · rintro w' ⟨s0, s1, s2, s3, s4, s5⟩
            go_simp
            with_reducible rfl
          rotate_left
          · simp only [Act.put, List.setIfInBounds_toArray, List.set_cons_zero, List.set_cons_succ, i64_w, i32_w]
            rfl
          refine take_ (i := 19) (N := some 26) (v := ?_) (a' := ?_) #[true, true, true, true, true, true, true, true, true, true, true, true, true, true, true, true, true, true, true, true, false, false, false, false, false] rfl rfl (take_ofW HT_.out HW_.out (by kernel_rfl)) (fun _ _ _ h => h) (Or.inl ⟨by rfl, ?_⟩) hHeld ?_ ?_
          rotate_left
          · rintro w' ⟨s0, s1, s2, s3, s4, s5⟩
            go_simp
            with_reducible rfl
          rotate_left
          · simp only [Act.put, List.setIfInBounds_toArray, List.set_cons_zero, List.set_cons_succ, i64_w, i32_w]
            rfl
          refine take_ (i := 21) (N := some 28) (v := ?_) (a' := ?_) #[true, true, true, true, true, true, true, true, true, true, true, true, true, true, true, true, true, true, true, true, false, true, false, false, false] rfl rfl (take_ofW HT_.out HW_.out (by kernel_rfl)) (fun _ _ _ h => h) (Or.inl ⟨by rfl, ?_⟩) hHeld ?_ ?_
          rotate_left
          · rintro w' ⟨s0, s1, s2, s3, s4, s5⟩
            go_simp
            with_reducible rfl
          rotate_left
          · simp only [Act.put, List.setIfInBounds_toArray, List.set_cons_zero, List.set_cons_succ, i64_w, i32_w]
            rfl
          refine one_ (i := 20) (N := some 27) #[true, true, true, true, true, true, true, true, true, true, true, true, true, true, true, true, true, true, true, true, true, true, false, false, false] rfl rfl (one_of HT_.out (by kernel_rfl)) (by decide) (fun K hK => ?_)
          refine goes_ Try.func29 (by kernel_rfl) rfl #[.agg #[.int .i64 a1_0, .int .i64 a1_1], .agg #[.int .i64 a2_0, .int .i64 a2_1]] (by rfl) rfl rfl (by (try simp only [List.map_toArray, List.map_cons, List.map_nil]); first | done | rfl | (simp only [List.length_drop, List.length_take]; rfl)) ?_
          with_reducible refine (plane_Around.calls a1_0 a1_1 a2_0 a2_1 t127 t128 t129 t130 _ A12.out).mono ?_
          rintro e w22 ⟨rfl, hb⟩
          refine ⟨_, rfl, ?_⟩
          have n0_ := Aside0.mk (blk_below (g := gb120) (o := .cells #[.int .i64 a0_0, .int .i64 a0_1] 23 (0, 0)) (by (with_reducible repeat (first | refine blk_drewN ?_ _ | refine blk_drew ?_ | refine blk_alloc ?_ _)); exact BK120.out) hb)
          have n1_ := Aside0.mk (blk_below (g := gb121) (o := .cells #[.int .i64 a1_0, .int .i64 a1_1] 23 (0, 0)) (by (with_reducible repeat (first | refine blk_drewN ?_ _ | refine blk_drew ?_ | refine blk_alloc ?_ _)); exact BK121.out) hb)
          have n2_ := Aside0.mk (blk_below (g := gb122) (o := .cells #[.int .i64 a2_0, .int .i64 a2_1] 23 (0, 0)) (by (with_reducible repeat (first | refine blk_drewN ?_ _ | refine blk_drew ?_ | refine blk_alloc ?_ _)); exact BK122.out) hb)
          have n3_ := Aside0.mk (below_step (by repeat (first | (with_reducible first | exact HB.out | apply below_alloc | apply pw_below_drewN | apply below_drew1 | refine below_set ?_ GE120.out | refine below_set ?_ GE121.out | refine below_set ?_ GE122.out) | exact HB.out)) hb)
          clear BK120
          clear BK121
          clear BK122
          clear HB
          have BK120 := n0_
          have BK121 := n1_
          have BK122 := n2_
          have HB := n3_
          clear n0_ n1_ n2_ n3_
          (try clear hb)
          (try clear hb2)
          (try clear hk)
          (try clear hi)
          refine hK.out _ _ ⟨(blk_cell BK120.out 0).trans rfl, (blk_cell BK120.out 1).trans rfl, (blk_cell BK121.out 0).trans rfl, (blk_cell BK121.out 1).trans rfl, (blk_cell BK122.out 0).trans rfl, (blk_cell BK122.out 1).trans rfl⟩ (fun hHeld => ?_)
          clear hK K
          refine norm_ (a' := ?_) ?_ ?_
          rotate_left
          · show Act.put _ (some 27) _ = _
            simp only [Act.put, List.setIfInBounds_toArray, List.set_cons_zero, List.set_cons_succ, i64_w, i32_w]
            rfl
          refine one_ (i := 22) (N := some 29) #[true, true, true, true, true, true, true, true, true, true, true, true, true, true, true, true, true, true, true, true, true, true, true, false, false] rfl rfl (one_of HT_.out (by kernel_rfl)) (by decide) (fun K hK => ?_)
          refine goes_ Try.func28 (by kernel_rfl) rfl #[.agg #[.int .i64 t127, .int .i64 t128, .int .i64 t129, .int .i64 t130], .agg #[.int .i64 a0_0, .int .i64 a0_1]] (by rfl) rfl rfl (by (try simp only [List.map_toArray, List.map_cons, List.map_nil]); first | done | rfl | (simp only [List.length_drop, List.length_take]; rfl)) ?_
          with_reducible refine (plane_Holds.calls t127 t128 t129 t130 a0_0 a0_1 t131 _ A13.out).mono ?_
          rintro e w23 ⟨rfl, hb⟩
          refine ⟨_, rfl, ?_⟩
          have n0_ := Aside0.mk (blk_below (g := gb120) (o := .cells #[.int .i64 a0_0, .int .i64 a0_1] 23 (0, 0)) (by (with_reducible repeat (first | refine blk_drewN ?_ _ | refine blk_drew ?_ | refine blk_alloc ?_ _)); exact BK120.out) hb)
          have n1_ := Aside0.mk (blk_below (g := gb121) (o := .cells #[.int .i64 a1_0, .int .i64 a1_1] 23 (0, 0)) (by (with_reducible repeat (first | refine blk_drewN ?_ _ | refine blk_drew ?_ | refine blk_alloc ?_ _)); exact BK121.out) hb)
          have n2_ := Aside0.mk (blk_below (g := gb122) (o := .cells #[.int .i64 a2_0, .int .i64 a2_1] 23 (0, 0)) (by (with_reducible repeat (first | refine blk_drewN ?_ _ | refine blk_drew ?_ | refine blk_alloc ?_ _)); exact BK122.out) hb)
          have n3_ := Aside0.mk (below_step (by repeat (first | (with_reducible first | exact HB.out | apply below_alloc | apply pw_below_drewN | apply below_drew1 | refine below_set ?_ GE120.out | refine below_set ?_ GE121.out | refine below_set ?_ GE122.out) | exact HB.out)) hb)
          clear BK120
          clear BK121
          clear BK122
          clear HB
          have BK120 := n0_
          have BK121 := n1_
          have BK122 := n2_
          have HB := n3_
          clear n0_ n1_ n2_ n3_
          (try clear hb)
          (try clear hb2)
          (try clear hk)
          (try clear hi)
          refine hK.out _ _ ⟨(blk_cell BK120.out 0).trans rfl, (blk_cell BK120.out 1).trans rfl, (blk_cell BK121.out 0).trans rfl, (blk_cell BK121.out 1).trans rfl, (blk_cell BK122.out 0).trans rfl, (blk_cell BK122.out 1).trans rfl⟩ (fun hHeld => ?_)
          clear hK K
          refine norm_ (a' := ?_) ?_ ?_
          rotate_left
          · show Act.put _ (some 29) _ = _
            simp only [Act.put, List.setIfInBounds_toArray, List.set_cons_zero, List.set_cons_succ, i64_w, i32_w]
            rfl
          refine pure_ (i := 23) (N := some 30) (v := ?_) (a' := ?_) #[true, true, true, true, true, true, true, true, true, true, true, true, true, true, true, true, true, true, true, true, true, true, true, true, false] rfl rfl (any_of HT_.out (by kernel_rfl)) (fun _ _ _ h => h) (Or.inl ⟨by rfl, ?_⟩) ?_ ?_
          rotate_left
          · intro w'
            go_simp
            with_reducible rfl
          rotate_left
          · simp only [Act.put, List.setIfInBounds_toArray, List.set_cons_zero, List.set_cons_succ, i64_w, i32_w]
            rfl
          refine pure_ (i := 24) (N := some 6) (v := ?_) (a' := ?_) #[true, true, true, true, true, true, true, true, true, true, true, true, true, true, true, true, true, true, true, true, true, true, true, true, true] rfl rfl (any_of HT_.out (by kernel_rfl)) (fun _ _ _ h => h) (Or.inl ⟨by rfl, ?_⟩) ?_ ?_
          rotate_left
          · intro w'
            go_simp
            with_reducible rfl
          rotate_left
          · simp only [Act.put, List.setIfInBounds_toArray, List.set_cons_zero, List.set_cons_succ, i64_w, i32_w]
            rfl
          refine done_ (done_of HT_.out (by kernel_rfl)) ?_
          try go_wp2
          go_ret
          exact ⟨by first | rfl | (simp [errW_none, errW_some] <;> rfl) | (simp [*, errW_none, errW_some] <;> rfl), by repeat (first | (with_reducible first | exact HB.out | apply below_alloc | apply pw_below_drewN | apply below_drew1 | refine below_set ?_ GE120.out | refine below_set ?_ GE121.out | refine below_set ?_ GE122.out) | exact HB.out)⟩
        · rw [if_neg c11] at H
          have c11b0 : (t126 == 0) = false := beq_eq_false_iff_ne.mpr c11
          have c11b1 : (t126 != 0) = true := bne_iff_ne.mpr c11
          obtain rfl := Option.some.inj H
          go_enter Try.func26, Try.ntmps26
          try go_wp2_with (first | ((with_reducible refine gate_dst (N := 3) rfl ?_); refine box_event ?hg (N := 3) ?hd (cs := #[.int .i64 a0_0, .int .i64 a0_1]) (t := 23) ?hr ?_; (case hd => rfl); (case hg => rfl); (case hr => first | (go_simp; done) | (go_simp; rfl)); intro gb120 hg w24 hbox hb; have n0_ := Aside0.mk (below_step (by repeat (first | (with_reducible first | exact HB.out | apply below_alloc | apply pw_below_drewN | apply below_drew1) | exact HB.out)) hb); have n1_ := Aside0.mk (hbox); have n2_ := Aside0.mk ((by rw [hg]; exact (below_size (by repeat (first | (with_reducible first | exact HB.out | apply below_alloc | apply pw_below_drewN | apply below_drew1) | exact HB.out))) : w.heap.size ≤ gb120)); have n3_ := Aside0.mk ((by rw [hg]; exact (below_size (by repeat (first | (with_reducible first | exact HB.out | apply below_alloc | apply pw_below_drewN | apply below_drew1) | exact HB.out))) : w.heap.size ≤ gb120)); clear HB; have HB := n0_; have BK120 := n1_; have GW120 := n2_; have GE120 := n3_; clear n0_ n1_ n2_ n3_; clear hb hbox hg) | ((with_reducible refine gate_dst (N := 4) rfl ?_); refine box_event ?hg (N := 4) ?hd (cs := #[.int .i64 a1_0, .int .i64 a1_1]) (t := 23) ?hr ?_; (case hd => rfl); (case hg => rfl); (case hr => first | (go_simp; done) | (go_simp; rfl)); intro gb121 hg w25 hbox hb; have n0_ := Aside0.mk (blk_below (g := gb120) (o := .cells #[.int .i64 a0_0, .int .i64 a0_1] 23 (0, 0)) (by (with_reducible repeat (first | refine blk_drewN ?_ _ | refine blk_drew ?_ | refine blk_alloc ?_ _)); exact BK120.out) hb); have n1_ := Aside0.mk (below_step (by repeat (first | (with_reducible first | exact HB.out | apply below_alloc | apply pw_below_drewN | apply below_drew1 | refine below_set ?_ GE120.out) | exact HB.out)) hb); have n2_ := Aside0.mk (hbox); have n3_ := Aside0.mk ((by rw [hg]; exact (below_size (by repeat (first | (with_reducible first | exact HB.out | apply below_alloc | apply pw_below_drewN | apply below_drew1 | refine below_set ?_ GE120.out) | exact HB.out))) : w.heap.size ≤ gb121)); have n4_ := Aside0.mk ((by rw [hg]; exact (below_size (by repeat (first | (with_reducible first | exact HB.out | apply below_alloc | apply pw_below_drewN | apply below_drew1 | refine below_set ?_ GE120.out) | exact HB.out))) : w.heap.size ≤ gb121)); have n5_ := Aside0.mk ((by rw [hg]; exact Nat.ne_of_lt (blk_lt (g := gb120) (o := .cells #[.int .i64 a0_0, .int .i64 a0_1] 23 (0, 0)) (by (with_reducible repeat (first | refine blk_drewN ?_ _ | refine blk_drew ?_ | refine blk_alloc ?_ _)); exact BK120.out)) : gb120 ≠ gb121)); have n6_ := Aside0.mk ((by rw [hg]; exact Nat.ne_of_gt (blk_lt (g := gb120) (o := .cells #[.int .i64 a0_0, .int .i64 a0_1] 23 (0, 0)) (by (with_reducible repeat (first | refine blk_drewN ?_ _ | refine blk_drew ?_ | refine blk_alloc ?_ _)); exact BK120.out)) : gb121 ≠ gb120)); clear BK120; clear HB; have BK120 := n0_; have HB := n1_; have BK121 := n2_; have GW121 := n3_; have GE121 := n4_; have NB120_121 := n5_; have NB121_120 := n6_; clear n0_ n1_ n2_ n3_ n4_ n5_ n6_; clear hb hbox hg) | ((with_reducible refine gate_dst (N := 5) rfl ?_); refine box_event ?hg (N := 5) ?hd (cs := #[.int .i64 a2_0, .int .i64 a2_1]) (t := 23) ?hr ?_; (case hd => rfl); (case hg => rfl); (case hr => first | (go_simp; done) | (go_simp; rfl)); intro gb122 hg w26 hbox hb; have n0_ := Aside0.mk (blk_below (g := gb120) (o := .cells #[.int .i64 a0_0, .int .i64 a0_1] 23 (0, 0)) (by (with_reducible repeat (first | refine blk_drewN ?_ _ | refine blk_drew ?_ | refine blk_alloc ?_ _)); exact BK120.out) hb); have n1_ := Aside0.mk (blk_below (g := gb121) (o := .cells #[.int .i64 a1_0, .int .i64 a1_1] 23 (0, 0)) (by (with_reducible repeat (first | refine blk_drewN ?_ _ | refine blk_drew ?_ | refine blk_alloc ?_ _)); exact BK121.out) hb); have n2_ := Aside0.mk (below_step (by repeat (first | (with_reducible first | exact HB.out | apply below_alloc | apply pw_below_drewN | apply below_drew1 | refine below_set ?_ GE120.out | refine below_set ?_ GE121.out) | exact HB.out)) hb); have n3_ := Aside0.mk (hbox); have n4_ := Aside0.mk ((by rw [hg]; exact (below_size (by repeat (first | (with_reducible first | exact HB.out | apply below_alloc | apply pw_below_drewN | apply below_drew1 | refine below_set ?_ GE120.out | refine below_set ?_ GE121.out) | exact HB.out))) : w.heap.size ≤ gb122)); have n5_ := Aside0.mk ((by rw [hg]; exact (below_size (by repeat (first | (with_reducible first | exact HB.out | apply below_alloc | apply pw_below_drewN | apply below_drew1 | refine below_set ?_ GE120.out | refine below_set ?_ GE121.out) | exact HB.out))) : w.heap.size ≤ gb122)); have n6_ := Aside0.mk ((by rw [hg]; exact Nat.ne_of_lt (blk_lt (g := gb120) (o := .cells #[.int .i64 a0_0, .int .i64 a0_1] 23 (0, 0)) (by (with_reducible repeat (first | refine blk_drewN ?_ _ | refine blk_drew ?_ | refine blk_alloc ?_ _)); exact BK120.out)) : gb120 ≠ gb122)); have n7_ := Aside0.mk ((by rw [hg]; exact Nat.ne_of_gt (blk_lt (g := gb120) (o := .cells #[.int .i64 a0_0, .int .i64 a0_1] 23 (0, 0)) (by (with_reducible repeat (first | refine blk_drewN ?_ _ | refine blk_drew ?_ | refine blk_alloc ?_ _)); exact BK120.out)) : gb122 ≠ gb120)); have n8_ := Aside0.mk ((by rw [hg]; exact Nat.ne_of_lt (blk_lt (g := gb121) (o := .cells #[.int .i64 a1_0, .int .i64 a1_1] 23 (0, 0)) (by (with_reducible repeat (first | refine blk_drewN ?_ _ | refine blk_drew ?_ | refine blk_alloc ?_ _)); exact BK121.out)) : gb121 ≠ gb122)); have n9_ := Aside0.mk ((by rw [hg]; exact Nat.ne_of_gt (blk_lt (g := gb121) (o := .cells #[.int .i64 a1_0, .int .i64 a1_1] 23 (0, 0)) (by (with_reducible repeat (first | refine blk_drewN ?_ _ | refine blk_drew ?_ | refine blk_alloc ?_ _)); exact BK121.out)) : gb122 ≠ gb121)); clear BK120; clear BK121; clear HB; have BK120 := n0_; have BK121 := n1_; have HB := n2_; have BK122 := n3_; have GW122 := n4_; have GE122 := n5_; have NB120_122 := n6_; have NB122_120 := n7_; have NB121_122 := n8_; have NB122_121 := n9_; clear n0_ n1_ n2_ n3_ n4_ n5_ n6_ n7_ n8_ n9_; clear hb hbox hg))
          have n0_ := Aside0.mk (blk_drew BK120.out)
          have n1_ := Aside0.mk (blk_drew BK121.out)
          have n2_ := Aside0.mk (blk_drew BK122.out)
          have n3_ := Aside0.mk (below_drew1 HB.out)
          clear BK120
          clear BK121
          clear BK122
          clear HB
          have BK120 := n0_
          have BK121 := n1_
          have BK122 := n2_
          have HB := n3_
          clear n0_ n1_ n2_ n3_
          refine start_ (n := 25) (S := fun w' => w'.cell? ⟨gb120, 0, none⟩ = some (.int .i64 a0_0) ∧ w'.cell? ⟨gb120, 1, none⟩ = some (.int .i64 a0_1) ∧ w'.cell? ⟨gb121, 0, none⟩ = some (.int .i64 a1_0) ∧ w'.cell? ⟨gb121, 1, none⟩ = some (.int .i64 a1_1) ∧ w'.cell? ⟨gb122, 0, none⟩ = some (.int .i64 a2_0) ∧ w'.cell? ⟨gb122, 1, none⟩ = some (.int .i64 a2_1)) (ds := []) #[false, false, false, false, false, false, false, false, false, false, false, false, false, false, false, false, false, false, false, false, false, false, false, false, false] (by kernel_rfl) rfl rfl ⟨(blk_cell BK120.out 0).trans rfl, (blk_cell BK120.out 1).trans rfl, (blk_cell BK121.out 0).trans rfl, (blk_cell BK121.out 1).trans rfl, (blk_cell BK122.out 0).trans rfl, (blk_cell BK122.out 1).trans rfl⟩ (fun hHeld => ?_); refine with_tabW plane_On.tab1 plane_On.bits1 (fun HT_ HW_ => ?_)
          generalize w26.drew = w27 at BK120 BK121 BK122 HB hHeld ⊢
          refine take_ (i := 0) (N := some 7) (v := ?_) (a' := ?_) #[true, false, false, false, false, false, false, false, false, false, false, false, false, false, false, false, false, false, false, false, false, false, false, false, false] rfl rfl (take_ofW HT_.out HW_.out (by kernel_rfl)) (fun _ _ _ h => h) (Or.inl ⟨by rfl, ?_⟩) hHeld ?_ ?_
          rotate_left
          · rintro w' ⟨s0, s1, s2, s3, s4, s5⟩
            go_simp
            with_reducible rfl
          rotate_left
          · simp only [Act.put, List.setIfInBounds_toArray, List.set_cons_zero, List.set_cons_succ, i64_w, i32_w]
            rfl
          refine one_ (i := 1) (N := some 8) #[true, true, false, false, false, false, false, false, false, false, false, false, false, false, false, false, false, false, false, false, false, false, false, false, false] rfl rfl (one_of HT_.out (by kernel_rfl)) (by decide) (fun K hK => ?_)
          refine goes_ Try.func20 (by kernel_rfl) rfl #[.agg #[.int .i64 a0_0, .int .i64 a0_1]] (by rfl) rfl rfl (by (try simp only [List.map_toArray, List.map_cons, List.map_nil]); first | done | rfl | (simp only [List.length_drop, List.length_take]; rfl)) ?_
          with_reducible refine (plane_Right.calls a0_0 a0_1 true _ A4.out).mono ?_
          rintro e w28 ⟨rfl, hb⟩
          refine ⟨_, rfl, ?_⟩
          have n0_ := Aside0.mk (blk_below (g := gb120) (o := .cells #[.int .i64 a0_0, .int .i64 a0_1] 23 (0, 0)) (by (with_reducible repeat (first | refine blk_drewN ?_ _ | refine blk_drew ?_ | refine blk_alloc ?_ _)); exact BK120.out) hb)
          have n1_ := Aside0.mk (blk_below (g := gb121) (o := .cells #[.int .i64 a1_0, .int .i64 a1_1] 23 (0, 0)) (by (with_reducible repeat (first | refine blk_drewN ?_ _ | refine blk_drew ?_ | refine blk_alloc ?_ _)); exact BK121.out) hb)
          have n2_ := Aside0.mk (blk_below (g := gb122) (o := .cells #[.int .i64 a2_0, .int .i64 a2_1] 23 (0, 0)) (by (with_reducible repeat (first | refine blk_drewN ?_ _ | refine blk_drew ?_ | refine blk_alloc ?_ _)); exact BK122.out) hb)
          have n3_ := Aside0.mk (below_step (by repeat (first | (with_reducible first | exact HB.out | apply below_alloc | apply pw_below_drewN | apply below_drew1 | refine below_set ?_ GE120.out | refine below_set ?_ GE121.out | refine below_set ?_ GE122.out) | exact HB.out)) hb)
          clear BK120
          clear BK121
          clear BK122
          clear HB
          have BK120 := n0_
          have BK121 := n1_
          have BK122 := n2_
          have HB := n3_
          clear n0_ n1_ n2_ n3_
          (try clear hb)
          (try clear hb2)
          (try clear hk)
          (try clear hi)
          refine hK.out _ _ ⟨(blk_cell BK120.out 0).trans rfl, (blk_cell BK120.out 1).trans rfl, (blk_cell BK121.out 0).trans rfl, (blk_cell BK121.out 1).trans rfl, (blk_cell BK122.out 0).trans rfl, (blk_cell BK122.out 1).trans rfl⟩ (fun hHeld => ?_)
          clear hK K
          refine norm_ (a' := ?_) ?_ ?_
          rotate_left
          · show Act.put _ (some 8) _ = _
            simp only [Act.put, List.setIfInBounds_toArray, List.set_cons_zero, List.set_cons_succ, i64_w, i32_w]
            rfl
          refine pure_ (i := 2) (N := some 9) (v := ?_) (a' := ?_) #[true, true, true, false, false, false, false, false, false, false, false, false, false, false, false, false, false, false, false, false, false, false, false, false, false] rfl rfl (any_of HT_.out (by kernel_rfl)) (fun _ _ _ h => h) (Or.inl ⟨by rfl, ?_⟩) ?_ ?_
          rotate_left
          · intro w'
            go_simp
            with_reducible rfl
          rotate_left
          · simp only [Act.put, List.setIfInBounds_toArray, List.set_cons_zero, List.set_cons_succ, i64_w, i32_w]
            rfl
          refine take_ (i := 3) (N := some 10) (v := ?_) (a' := ?_) #[true, true, true, true, false, false, false, false, false, false, false, false, false, false, false, false, false, false, false, false, false, false, false, false, false] rfl rfl (take_ofW HT_.out HW_.out (by kernel_rfl)) (fun _ _ _ h => h) (Or.inl ⟨by rfl, ?_⟩) hHeld ?_ ?_
          rotate_left
          · rintro w' ⟨s0, s1, s2, s3, s4, s5⟩
            go_simp
            with_reducible rfl
          rotate_left
          · simp only [Act.put, List.setIfInBounds_toArray, List.set_cons_zero, List.set_cons_succ, i64_w, i32_w]
            rfl
          refine one_ (i := 4) (N := some 11) #[true, true, true, true, true, false, false, false, false, false, false, false, false, false, false, false, false, false, false, false, false, false, false, false, false] rfl rfl (one_of HT_.out (by kernel_rfl)) (by decide) (fun K hK => ?_)
          refine goes_ Try.func20 (by kernel_rfl) rfl #[.agg #[.int .i64 a1_0, .int .i64 a1_1]] (by rfl) rfl rfl (by (try simp only [List.map_toArray, List.map_cons, List.map_nil]); first | done | rfl | (simp only [List.length_drop, List.length_take]; rfl)) ?_
          with_reducible refine (plane_Right.calls a1_0 a1_1 true _ A6.out).mono ?_
          rintro e w29 ⟨rfl, hb⟩
          refine ⟨_, rfl, ?_⟩
          have n0_ := Aside0.mk (blk_below (g := gb120) (o := .cells #[.int .i64 a0_0, .int .i64 a0_1] 23 (0, 0)) (by (with_reducible repeat (first | refine blk_drewN ?_ _ | refine blk_drew ?_ | refine blk_alloc ?_ _)); exact BK120.out) hb)
          have n1_ := Aside0.mk (blk_below (g := gb121) (o := .cells #[.int .i64 a1_0, .int .i64 a1_1] 23 (0, 0)) (by (with_reducible repeat (first | refine blk_drewN ?_ _ | refine blk_drew ?_ | refine blk_alloc ?_ _)); exact BK121.out) hb)
          have n2_ := Aside0.mk (blk_below (g := gb122) (o := .cells #[.int .i64 a2_0, .int .i64 a2_1] 23 (0, 0)) (by (with_reducible repeat (first | refine blk_drewN ?_ _ | refine blk_drew ?_ | refine blk_alloc ?_ _)); exact BK122.out) hb)
          have n3_ := Aside0.mk (below_step (by repeat (first | (with_reducible first | exact HB.out | apply below_alloc | apply pw_below_drewN | apply below_drew1 | refine below_set ?_ GE120.out | refine below_set ?_ GE121.out | refine below_set ?_ GE122.out) | exact HB.out)) hb)
          clear BK120
          clear BK121
          clear BK122
          clear HB
          have BK120 := n0_
          have BK121 := n1_
          have BK122 := n2_
          have HB := n3_
          clear n0_ n1_ n2_ n3_
          (try clear hb)
          (try clear hb2)
          (try clear hk)
          (try clear hi)
          refine hK.out _ _ ⟨(blk_cell BK120.out 0).trans rfl, (blk_cell BK120.out 1).trans rfl, (blk_cell BK121.out 0).trans rfl, (blk_cell BK121.out 1).trans rfl, (blk_cell BK122.out 0).trans rfl, (blk_cell BK122.out 1).trans rfl⟩ (fun hHeld => ?_)
          clear hK K
          refine norm_ (a' := ?_) ?_ ?_
          rotate_left
          · show Act.put _ (some 11) _ = _
            simp only [Act.put, List.setIfInBounds_toArray, List.set_cons_zero, List.set_cons_succ, i64_w, i32_w]
            rfl
          refine pure_ (i := 5) (N := some 12) (v := ?_) (a' := ?_) #[true, true, true, true, true, true, false, false, false, false, false, false, false, false, false, false, false, false, false, false, false, false, false, false, false] rfl rfl (any_of HT_.out (by kernel_rfl)) (fun _ _ _ h => h) (Or.inl ⟨by rfl, ?_⟩) ?_ ?_
          rotate_left
          · intro w'
            go_simp
            with_reducible rfl
          rotate_left
          · simp only [Act.put, List.setIfInBounds_toArray, List.set_cons_zero, List.set_cons_succ, i64_w, i32_w]
            rfl
          refine pure_ (i := 6) (N := some 13) (v := ?_) (a' := ?_) #[true, true, true, true, true, true, true, false, false, false, false, false, false, false, false, false, false, false, false, false, false, false, false, false, false] rfl rfl (any_of HT_.out (by kernel_rfl)) (fun _ _ _ h => h) (Or.inl ⟨by rfl, ?_⟩) ?_ ?_
          rotate_left
          · intro w'
            go_simp
            with_reducible rfl
          rotate_left
          · simp only [Act.put, List.setIfInBounds_toArray, List.set_cons_zero, List.set_cons_succ, i64_w, i32_w]
            rfl
          refine take_ (i := 7) (N := some 14) (v := ?_) (a' := ?_) #[true, true, true, true, true, true, true, true, false, false, false, false, false, false, false, false, false, false, false, false, false, false, false, false, false] rfl rfl (take_ofW HT_.out HW_.out (by kernel_rfl)) (fun _ _ _ h => h) (Or.inl ⟨by rfl, ?_⟩) hHeld ?_ ?_
          rotate_left
          · rintro w' ⟨s0, s1, s2, s3, s4, s5⟩
            go_simp
            with_reducible rfl
          rotate_left
          · simp only [Act.put, List.setIfInBounds_toArray, List.set_cons_zero, List.set_cons_succ, i64_w, i32_w]
            rfl
          refine one_ (i := 8) (N := some 15) #[true, true, true, true, true, true, true, true, true, false, false, false, false, false, false, false, false, false, false, false, false, false, false, false, false] rfl rfl (one_of HT_.out (by kernel_rfl)) (by decide) (fun K hK => ?_)
          refine goes_ Try.func20 (by kernel_rfl) rfl #[.agg #[.int .i64 a2_0, .int .i64 a2_1]] (by rfl) rfl rfl (by (try simp only [List.map_toArray, List.map_cons, List.map_nil]); first | done | rfl | (simp only [List.length_drop, List.length_take]; rfl)) ?_
          with_reducible refine (plane_Right.calls a2_0 a2_1 true _ A8.out).mono ?_
          rintro e w30 ⟨rfl, hb⟩
          refine ⟨_, rfl, ?_⟩
          have n0_ := Aside0.mk (blk_below (g := gb120) (o := .cells #[.int .i64 a0_0, .int .i64 a0_1] 23 (0, 0)) (by (with_reducible repeat (first | refine blk_drewN ?_ _ | refine blk_drew ?_ | refine blk_alloc ?_ _)); exact BK120.out) hb)
          have n1_ := Aside0.mk (blk_below (g := gb121) (o := .cells #[.int .i64 a1_0, .int .i64 a1_1] 23 (0, 0)) (by (with_reducible repeat (first | refine blk_drewN ?_ _ | refine blk_drew ?_ | refine blk_alloc ?_ _)); exact BK121.out) hb)
          have n2_ := Aside0.mk (blk_below (g := gb122) (o := .cells #[.int .i64 a2_0, .int .i64 a2_1] 23 (0, 0)) (by (with_reducible repeat (first | refine blk_drewN ?_ _ | refine blk_drew ?_ | refine blk_alloc ?_ _)); exact BK122.out) hb)
          have n3_ := Aside0.mk (below_step (by repeat (first | (with_reducible first | exact HB.out | apply below_alloc | apply pw_below_drewN | apply below_drew1 | refine below_set ?_ GE120.out | refine below_set ?_ GE121.out | refine below_set ?_ GE122.out) | exact HB.out)) hb)
          clear BK120
          clear BK121
          clear BK122
          clear HB
          have BK120 := n0_
          have BK121 := n1_
          have BK122 := n2_
          have HB := n3_
          clear n0_ n1_ n2_ n3_
          (try clear hb)
          (try clear hb2)
          (try clear hk)
          (try clear hi)
          refine hK.out _ _ ⟨(blk_cell BK120.out 0).trans rfl, (blk_cell BK120.out 1).trans rfl, (blk_cell BK121.out 0).trans rfl, (blk_cell BK121.out 1).trans rfl, (blk_cell BK122.out 0).trans rfl, (blk_cell BK122.out 1).trans rfl⟩ (fun hHeld => ?_)
          clear hK K
          refine norm_ (a' := ?_) ?_ ?_
          rotate_left
          · show Act.put _ (some 15) _ = _
            simp only [Act.put, List.setIfInBounds_toArray, List.set_cons_zero, List.set_cons_succ, i64_w, i32_w]
            rfl
          refine pure_ (i := 9) (N := some 16) (v := ?_) (a' := ?_) #[true, true, true, true, true, true, true, true, true, true, false, false, false, false, false, false, false, false, false, false, false, false, false, false, false] rfl rfl (any_of HT_.out (by kernel_rfl)) (fun _ _ _ h => h) (Or.inl ⟨by rfl, ?_⟩) ?_ ?_
          rotate_left
          · intro w'
            go_simp
            with_reducible rfl
          rotate_left
          · simp only [Act.put, List.setIfInBounds_toArray, List.set_cons_zero, List.set_cons_succ, i64_w, i32_w]
            rfl
          refine pure_ (i := 10) (N := some 17) (v := ?_) (a' := ?_) #[true, true, true, true, true, true, true, true, true, true, true, false, false, false, false, false, false, false, false, false, false, false, false, false, false] rfl rfl (any_of HT_.out (by kernel_rfl)) (fun _ _ _ h => h) (Or.inl ⟨by rfl, ?_⟩) ?_ ?_
          rotate_left
          · intro w'
            go_simp
            with_reducible rfl
          rotate_left
          · simp only [Act.put, List.setIfInBounds_toArray, List.set_cons_zero, List.set_cons_succ, i64_w, i32_w]
            rfl
          refine take_ (i := 11) (N := some 18) (v := ?_) (a' := ?_) #[true, true, true, true, true, true, true, true, true, true, true, true, false, false, false, false, false, false, false, false, false, false, false, false, false] rfl rfl (take_ofW HT_.out HW_.out (by kernel_rfl)) (fun _ _ _ h => h) (Or.inl ⟨by rfl, ?_⟩) hHeld ?_ ?_
          rotate_left
          · rintro w' ⟨s0, s1, s2, s3, s4, s5⟩
            go_simp
            with_reducible rfl
          rotate_left
          · simp only [Act.put, List.setIfInBounds_toArray, List.set_cons_zero, List.set_cons_succ, i64_w, i32_w]
            rfl
          refine take_ (i := 12) (N := some 19) (v := ?_) (a' := ?_) #[true, true, true, true, true, true, true, true, true, true, true, true, true, false, false, false, false, false, false, false, false, false, false, false, false] rfl rfl (take_ofW HT_.out HW_.out (by kernel_rfl)) (fun _ _ _ h => h) (Or.inl ⟨by rfl, ?_⟩) hHeld ?_ ?_
          rotate_left
          · rintro w' ⟨s0, s1, s2, s3, s4, s5⟩
            go_simp
            with_reducible rfl
          rotate_left
          · simp only [Act.put, List.setIfInBounds_toArray, List.set_cons_zero, List.set_cons_succ, i64_w, i32_w]
            rfl
          refine take_ (i := 13) (N := some 20) (v := ?_) (a' := ?_) #[true, true, true, true, true, true, true, true, true, true, true, true, true, true, false, false, false, false, false, false, false, false, false, false, false] rfl rfl (take_ofW HT_.out HW_.out (by kernel_rfl)) (fun _ _ _ h => h) (Or.inl ⟨by rfl, ?_⟩) hHeld ?_ ?_
          rotate_left
          · rintro w' ⟨s0, s1, s2, s3, s4, s5⟩
            go_simp
            with_reducible rfl
          rotate_left
          · simp only [Act.put, List.setIfInBounds_toArray, List.set_cons_zero, List.set_cons_succ, i64_w, i32_w]
            rfl
          refine one_ (i := 14) (N := some 21) #[true, true, true, true, true, true, true, true, true, true, true, true, true, true, true, false, false, false, false, false, false, false, false, false, false] rfl rfl (one_of HT_.out (by kernel_rfl)) (by decide) (fun K hK => ?_)
          refine goes_ Try.func23 (by kernel_rfl) rfl #[.agg #[.int .i64 a1_0, .int .i64 a1_1], .agg #[.int .i64 a2_0, .int .i64 a2_1], .agg #[.int .i64 a0_0, .int .i64 a0_1]] (by rfl) rfl rfl (by (try simp only [List.map_toArray, List.map_cons, List.map_nil]); first | done | rfl | (simp only [List.length_drop, List.length_take]; rfl)) ?_
          with_reducible refine (plane_Turn.calls a1_0 a1_1 a2_0 a2_1 a0_0 a0_1 t126 _ A10.out).mono ?_
          rintro e w31 ⟨rfl, hb⟩
          refine ⟨_, rfl, ?_⟩
          have n0_ := Aside0.mk (blk_below (g := gb120) (o := .cells #[.int .i64 a0_0, .int .i64 a0_1] 23 (0, 0)) (by (with_reducible repeat (first | refine blk_drewN ?_ _ | refine blk_drew ?_ | refine blk_alloc ?_ _)); exact BK120.out) hb)
          have n1_ := Aside0.mk (blk_below (g := gb121) (o := .cells #[.int .i64 a1_0, .int .i64 a1_1] 23 (0, 0)) (by (with_reducible repeat (first | refine blk_drewN ?_ _ | refine blk_drew ?_ | refine blk_alloc ?_ _)); exact BK121.out) hb)
          have n2_ := Aside0.mk (blk_below (g := gb122) (o := .cells #[.int .i64 a2_0, .int .i64 a2_1] 23 (0, 0)) (by (with_reducible repeat (first | refine blk_drewN ?_ _ | refine blk_drew ?_ | refine blk_alloc ?_ _)); exact BK122.out) hb)
          have n3_ := Aside0.mk (below_step (by repeat (first | (with_reducible first | exact HB.out | apply below_alloc | apply pw_below_drewN | apply below_drew1 | refine below_set ?_ GE120.out | refine below_set ?_ GE121.out | refine below_set ?_ GE122.out) | exact HB.out)) hb)
          clear BK120
          clear BK121
          clear BK122
          clear HB
          have BK120 := n0_
          have BK121 := n1_
          have BK122 := n2_
          have HB := n3_
          clear n0_ n1_ n2_ n3_
          (try clear hb)
          (try clear hb2)
          (try clear hk)
          (try clear hi)
          refine hK.out _ _ ⟨(blk_cell BK120.out 0).trans rfl, (blk_cell BK120.out 1).trans rfl, (blk_cell BK121.out 0).trans rfl, (blk_cell BK121.out 1).trans rfl, (blk_cell BK122.out 0).trans rfl, (blk_cell BK122.out 1).trans rfl⟩ (fun hHeld => ?_)
          clear hK K
          refine norm_ (a' := ?_) ?_ ?_
          rotate_left
          · show Act.put _ (some 21) _ = _
            simp only [Act.put, List.setIfInBounds_toArray, List.set_cons_zero, List.set_cons_succ, i64_w, i32_w]
            rfl
          refine pure_ (i := 15) (N := some 22) (v := ?_) (a' := ?_) #[true, true, true, true, true, true, true, true, true, true, true, true, true, true, true, true, false, false, false, false, false, false, false, false, false] rfl rfl (any_of HT_.out (by kernel_rfl)) (fun _ _ _ h => h) (Or.inl ⟨by rfl, ?_⟩) ?_ ?_
          rotate_left
          · intro w'
            go_simp
            with_reducible rfl
          rotate_left
          · simp only [Act.put, List.setIfInBounds_toArray, List.set_cons_zero, List.set_cons_succ, i64_w, i32_w]
            rfl
          refine pure_ (i := 16) (N := some 23) (v := ?_) (a' := ?_) #[true, true, true, true, true, true, true, true, true, true, true, true, true, true, true, true, true, false, false, false, false, false, false, false, false] rfl rfl (any_of HT_.out (by kernel_rfl)) (fun _ _ _ h => h) (Or.inl ⟨by rfl, ?_⟩) ?_ ?_
          rotate_left
          · intro w'
            go_simp
            with_reducible rfl
          rotate_left
          · simp only [Act.put, List.setIfInBounds_toArray, List.set_cons_zero, List.set_cons_succ, i64_w, i32_w]
            rfl
          refine pure_ (i := 17) (N := some 24) (v := ?_) (a' := ?_) #[true, true, true, true, true, true, true, true, true, true, true, true, true, true, true, true, true, true, false, false, false, false, false, false, false] rfl rfl (any_of HT_.out (by kernel_rfl)) (fun _ _ _ h => h) (Or.inl ⟨by rfl, ?_⟩) ?_ ?_
          rotate_left
          · intro w'
            go_simp
            with_reducible rfl
          rotate_left
          · simp only [Act.put, List.setIfInBounds_toArray, List.set_cons_zero, List.set_cons_succ, i64_w, i32_w]
            rfl
          refine pure_ (i := 18) (N := some 25) (v := undef) (a' := ?_) #[true, true, true, true, true, true, true, true, true, true, true, true, true, true, true, true, true, true, true, false, false, false, false, false, false] rfl rfl (any_of HT_.out (by kernel_rfl)) (fun _ _ _ h => h) (Or.inr ⟨by rfl, rfl⟩) ?_ ?_
          rotate_left
          · simp only [Act.put, List.setIfInBounds_toArray, List.set_cons_zero, List.set_cons_succ, i64_w, i32_w]
            rfl
          refine pure_ (i := 19) (N := some 26) (v := undef) (a' := ?_) #[true, true, true, true, true, true, true, true, true, true, true, true, true, true, true, true, true, true, true, true, false, false, false, false, false] rfl rfl (any_of HT_.out (by kernel_rfl)) (fun _ _ _ h => h) (Or.inr ⟨by rfl, rfl⟩) ?_ ?_
          rotate_left
          · simp only [Act.put, List.setIfInBounds_toArray, List.set_cons_zero, List.set_cons_succ, i64_w, i32_w]
            rfl
          refine pure_ (i := 20) (N := some 27) (v := undef) (a' := ?_) #[true, true, true, true, true, true, true, true, true, true, true, true, true, true, true, true, true, true, true, true, true, false, false, false, false] rfl rfl (any_of HT_.out (by kernel_rfl)) (fun _ _ _ h => h) (Or.inr ⟨by rfl, rfl⟩) ?_ ?_
          rotate_left
          · simp only [Act.put, List.setIfInBounds_toArray, List.set_cons_zero, List.set_cons_succ, i64_w, i32_w]
            rfl
          refine pure_ (i := 21) (N := some 28) (v := undef) (a' := ?_) #[true, true, true, true, true, true, true, true, true, true, true, true, true, true, true, true, true, true, true, true, true, true, false, false, false] rfl rfl (any_of HT_.out (by kernel_rfl)) (fun _ _ _ h => h) (Or.inr ⟨by rfl, rfl⟩) ?_ ?_
          rotate_left
          · simp only [Act.put, List.setIfInBounds_toArray, List.set_cons_zero, List.set_cons_succ, i64_w, i32_w]
            rfl
          refine pure_ (i := 22) (N := some 29) (v := undef) (a' := ?_) #[true, true, true, true, true, true, true, true, true, true, true, true, true, true, true, true, true, true, true, true, true, true, true, false, false] rfl rfl (any_of HT_.out (by kernel_rfl)) (fun _ _ _ h => h) (Or.inr ⟨by rfl, rfl⟩) ?_ ?_
          rotate_left
          · simp only [Act.put, List.setIfInBounds_toArray, List.set_cons_zero, List.set_cons_succ, i64_w, i32_w]
            rfl
          refine pure_ (i := 23) (N := some 30) (v := ?_) (a' := ?_) #[true, true, true, true, true, true, true, true, true, true, true, true, true, true, true, true, true, true, true, true, true, true, true, true, false] rfl rfl (any_of HT_.out (by kernel_rfl)) (fun _ _ _ h => h) (Or.inl ⟨by rfl, ?_⟩) ?_ ?_
          rotate_left
          · intro w'
            go_simp
            with_reducible rfl
          rotate_left
          · simp only [Act.put, List.setIfInBounds_toArray, List.set_cons_zero, List.set_cons_succ, i64_w, i32_w]
            rfl
          refine pure_ (i := 24) (N := some 6) (v := ?_) (a' := ?_) #[true, true, true, true, true, true, true, true, true, true, true, true, true, true, true, true, true, true, true, true, true, true, true, true, true] rfl rfl (any_of HT_.out (by kernel_rfl)) (fun _ _ _ h => h) (Or.inl ⟨by rfl, ?_⟩) ?_ ?_
          rotate_left
          · intro w'
            go_simp
            with_reducible rfl
          rotate_left
          · simp only [Act.put, List.setIfInBounds_toArray, List.set_cons_zero, List.set_cons_succ, i64_w, i32_w]
            rfl
          refine done_ (done_of HT_.out (by kernel_rfl)) ?_
          try go_wp2
          go_ret
          exact ⟨by first | rfl | (simp [errW_none, errW_some] <;> rfl) | (simp [*, errW_none, errW_some] <;> rfl), by repeat (first | (with_reducible first | exact HB.out | apply below_alloc | apply pw_below_drewN | apply below_drew1 | refine below_set ?_ GE120.out | refine below_set ?_ GE121.out | refine below_set ?_ GE122.out) | exact HB.out)⟩
      · replace c9 := Bool.eq_false_iff.mpr c9
        subst c9
        have H1 : (some false) = some r := by rw [if_neg (show ¬ (false = true) by decide)] at H; exact H
        clear H
        have H := H1
        clear H1
        obtain rfl := Option.some.inj H
        go_enter Try.func26, Try.ntmps26
        try go_wp2_with (first | ((with_reducible refine gate_dst (N := 3) rfl ?_); refine box_event ?hg (N := 3) ?hd (cs := #[.int .i64 a0_0, .int .i64 a0_1]) (t := 23) ?hr ?_; (case hd => rfl); (case hg => rfl); (case hr => first | (go_simp; done) | (go_simp; rfl)); intro gb120 hg w32 hbox hb; have n0_ := Aside0.mk (below_step (by repeat (first | (with_reducible first | exact HB.out | apply below_alloc | apply pw_below_drewN | apply below_drew1) | exact HB.out)) hb); have n1_ := Aside0.mk (hbox); have n2_ := Aside0.mk ((by rw [hg]; exact (below_size (by repeat (first | (with_reducible first | exact HB.out | apply below_alloc | apply pw_below_drewN | apply below_drew1) | exact HB.out))) : w.heap.size ≤ gb120)); have n3_ := Aside0.mk ((by rw [hg]; exact (below_size (by repeat (first | (with_reducible first | exact HB.out | apply below_alloc | apply pw_below_drewN | apply below_drew1) | exact HB.out))) : w.heap.size ≤ gb120)); clear HB; have HB := n0_; have BK120 := n1_; have GW120 := n2_; have GE120 := n3_; clear n0_ n1_ n2_ n3_; clear hb hbox hg) | ((with_reducible refine gate_dst (N := 4) rfl ?_); refine box_event ?hg (N := 4) ?hd (cs := #[.int .i64 a1_0, .int .i64 a1_1]) (t := 23) ?hr ?_; (case hd => rfl); (case hg => rfl); (case hr => first | (go_simp; done) | (go_simp; rfl)); intro gb121 hg w33 hbox hb; have n0_ := Aside0.mk (blk_below (g := gb120) (o := .cells #[.int .i64 a0_0, .int .i64 a0_1] 23 (0, 0)) (by (with_reducible repeat (first | refine blk_drewN ?_ _ | refine blk_drew ?_ | refine blk_alloc ?_ _)); exact BK120.out) hb); have n1_ := Aside0.mk (below_step (by repeat (first | (with_reducible first | exact HB.out | apply below_alloc | apply pw_below_drewN | apply below_drew1 | refine below_set ?_ GE120.out) | exact HB.out)) hb); have n2_ := Aside0.mk (hbox); have n3_ := Aside0.mk ((by rw [hg]; exact (below_size (by repeat (first | (with_reducible first | exact HB.out | apply below_alloc | apply pw_below_drewN | apply below_drew1 | refine below_set ?_ GE120.out) | exact HB.out))) : w.heap.size ≤ gb121)); have n4_ := Aside0.mk ((by rw [hg]; exact (below_size (by repeat (first | (with_reducible first | exact HB.out | apply below_alloc | apply pw_below_drewN | apply below_drew1 | refine below_set ?_ GE120.out) | exact HB.out))) : w.heap.size ≤ gb121)); have n5_ := Aside0.mk ((by rw [hg]; exact Nat.ne_of_lt (blk_lt (g := gb120) (o := .cells #[.int .i64 a0_0, .int .i64 a0_1] 23 (0, 0)) (by (with_reducible repeat (first | refine blk_drewN ?_ _ | refine blk_drew ?_ | refine blk_alloc ?_ _)); exact BK120.out)) : gb120 ≠ gb121)); have n6_ := Aside0.mk ((by rw [hg]; exact Nat.ne_of_gt (blk_lt (g := gb120) (o := .cells #[.int .i64 a0_0, .int .i64 a0_1] 23 (0, 0)) (by (with_reducible repeat (first | refine blk_drewN ?_ _ | refine blk_drew ?_ | refine blk_alloc ?_ _)); exact BK120.out)) : gb121 ≠ gb120)); clear BK120; clear HB; have BK120 := n0_; have HB := n1_; have BK121 := n2_; have GW121 := n3_; have GE121 := n4_; have NB120_121 := n5_; have NB121_120 := n6_; clear n0_ n1_ n2_ n3_ n4_ n5_ n6_; clear hb hbox hg) | ((with_reducible refine gate_dst (N := 5) rfl ?_); refine box_event ?hg (N := 5) ?hd (cs := #[.int .i64 a2_0, .int .i64 a2_1]) (t := 23) ?hr ?_; (case hd => rfl); (case hg => rfl); (case hr => first | (go_simp; done) | (go_simp; rfl)); intro gb122 hg w34 hbox hb; have n0_ := Aside0.mk (blk_below (g := gb120) (o := .cells #[.int .i64 a0_0, .int .i64 a0_1] 23 (0, 0)) (by (with_reducible repeat (first | refine blk_drewN ?_ _ | refine blk_drew ?_ | refine blk_alloc ?_ _)); exact BK120.out) hb); have n1_ := Aside0.mk (blk_below (g := gb121) (o := .cells #[.int .i64 a1_0, .int .i64 a1_1] 23 (0, 0)) (by (with_reducible repeat (first | refine blk_drewN ?_ _ | refine blk_drew ?_ | refine blk_alloc ?_ _)); exact BK121.out) hb); have n2_ := Aside0.mk (below_step (by repeat (first | (with_reducible first | exact HB.out | apply below_alloc | apply pw_below_drewN | apply below_drew1 | refine below_set ?_ GE120.out | refine below_set ?_ GE121.out) | exact HB.out)) hb); have n3_ := Aside0.mk (hbox); have n4_ := Aside0.mk ((by rw [hg]; exact (below_size (by repeat (first | (with_reducible first | exact HB.out | apply below_alloc | apply pw_below_drewN | apply below_drew1 | refine below_set ?_ GE120.out | refine below_set ?_ GE121.out) | exact HB.out))) : w.heap.size ≤ gb122)); have n5_ := Aside0.mk ((by rw [hg]; exact (below_size (by repeat (first | (with_reducible first | exact HB.out | apply below_alloc | apply pw_below_drewN | apply below_drew1 | refine below_set ?_ GE120.out | refine below_set ?_ GE121.out) | exact HB.out))) : w.heap.size ≤ gb122)); have n6_ := Aside0.mk ((by rw [hg]; exact Nat.ne_of_lt (blk_lt (g := gb120) (o := .cells #[.int .i64 a0_0, .int .i64 a0_1] 23 (0, 0)) (by (with_reducible repeat (first | refine blk_drewN ?_ _ | refine blk_drew ?_ | refine blk_alloc ?_ _)); exact BK120.out)) : gb120 ≠ gb122)); have n7_ := Aside0.mk ((by rw [hg]; exact Nat.ne_of_gt (blk_lt (g := gb120) (o := .cells #[.int .i64 a0_0, .int .i64 a0_1] 23 (0, 0)) (by (with_reducible repeat (first | refine blk_drewN ?_ _ | refine blk_drew ?_ | refine blk_alloc ?_ _)); exact BK120.out)) : gb122 ≠ gb120)); have n8_ := Aside0.mk ((by rw [hg]; exact Nat.ne_of_lt (blk_lt (g := gb121) (o := .cells #[.int .i64 a1_0, .int .i64 a1_1] 23 (0, 0)) (by (with_reducible repeat (first | refine blk_drewN ?_ _ | refine blk_drew ?_ | refine blk_alloc ?_ _)); exact BK121.out)) : gb121 ≠ gb122)); have n9_ := Aside0.mk ((by rw [hg]; exact Nat.ne_of_gt (blk_lt (g := gb121) (o := .cells #[.int .i64 a1_0, .int .i64 a1_1] 23 (0, 0)) (by (with_reducible repeat (first | refine blk_drewN ?_ _ | refine blk_drew ?_ | refine blk_alloc ?_ _)); exact BK121.out)) : gb122 ≠ gb121)); clear BK120; clear BK121; clear HB; have BK120 := n0_; have BK121 := n1_; have HB := n2_; have BK122 := n3_; have GW122 := n4_; have GE122 := n5_; have NB120_122 := n6_; have NB122_120 := n7_; have NB121_122 := n8_; have NB122_121 := n9_; clear n0_ n1_ n2_ n3_ n4_ n5_ n6_ n7_ n8_ n9_; clear hb hbox hg))
        have n0_ := Aside0.mk (blk_drew BK120.out)
        have n1_ := Aside0.mk (blk_drew BK121.out)
        have n2_ := Aside0.mk (blk_drew BK122.out)
        have n3_ := Aside0.mk (below_drew1 HB.out)
        clear BK120
        clear BK121
        clear BK122
        clear HB
        have BK120 := n0_
        have BK121 := n1_
        have BK122 := n2_
        have HB := n3_
        clear n0_ n1_ n2_ n3_
        refine start_ (n := 25) (S := fun w' => w'.cell? ⟨gb120, 0, none⟩ = some (.int .i64 a0_0) ∧ w'.cell? ⟨gb120, 1, none⟩ = some (.int .i64 a0_1) ∧ w'.cell? ⟨gb121, 0, none⟩ = some (.int .i64 a1_0) ∧ w'.cell? ⟨gb121, 1, none⟩ = some (.int .i64 a1_1) ∧ w'.cell? ⟨gb122, 0, none⟩ = some (.int .i64 a2_0) ∧ w'.cell? ⟨gb122, 1, none⟩ = some (.int .i64 a2_1)) (ds := []) #[false, false, false, false, false, false, false, false, false, false, false, false, false, false, false, false, false, false, false, false, false, false, false, false, false] (by kernel_rfl) rfl rfl ⟨(blk_cell BK120.out 0).trans rfl, (blk_cell BK120.out 1).trans rfl, (blk_cell BK121.out 0).trans rfl, (blk_cell BK121.out 1).trans rfl, (blk_cell BK122.out 0).trans rfl, (blk_cell BK122.out 1).trans rfl⟩ (fun hHeld => ?_); refine with_tabW plane_On.tab1 plane_On.bits1 (fun HT_ HW_ => ?_)
        generalize w34.drew = w35 at BK120 BK121 BK122 HB hHeld ⊢
        refine take_ (i := 0) (N := some 7) (v := ?_) (a' := ?_) #[true, false, false, false, false, false, false, false, false, false, false, false, false, false, false, false, false, false, false, false, false, false, false, false, false] rfl rfl (take_ofW HT_.out HW_.out (by kernel_rfl)) (fun _ _ _ h => h) (Or.inl ⟨by rfl, ?_⟩) hHeld ?_ ?_
        rotate_left
        · rintro w' ⟨s0, s1, s2, s3, s4, s5⟩
          go_simp
          with_reducible rfl
        rotate_left
        · simp only [Act.put, List.setIfInBounds_toArray, List.set_cons_zero, List.set_cons_succ, i64_w, i32_w]
          rfl
        refine one_ (i := 1) (N := some 8) #[true, true, false, false, false, false, false, false, false, false, false, false, false, false, false, false, false, false, false, false, false, false, false, false, false] rfl rfl (one_of HT_.out (by kernel_rfl)) (by decide) (fun K hK => ?_)
        refine goes_ Try.func20 (by kernel_rfl) rfl #[.agg #[.int .i64 a0_0, .int .i64 a0_1]] (by rfl) rfl rfl (by (try simp only [List.map_toArray, List.map_cons, List.map_nil]); first | done | rfl | (simp only [List.length_drop, List.length_take]; rfl)) ?_
        with_reducible refine (plane_Right.calls a0_0 a0_1 true _ A4.out).mono ?_
        rintro e w36 ⟨rfl, hb⟩
        refine ⟨_, rfl, ?_⟩
        have n0_ := Aside0.mk (blk_below (g := gb120) (o := .cells #[.int .i64 a0_0, .int .i64 a0_1] 23 (0, 0)) (by (with_reducible repeat (first | refine blk_drewN ?_ _ | refine blk_drew ?_ | refine blk_alloc ?_ _)); exact BK120.out) hb)
        have n1_ := Aside0.mk (blk_below (g := gb121) (o := .cells #[.int .i64 a1_0, .int .i64 a1_1] 23 (0, 0)) (by (with_reducible repeat (first | refine blk_drewN ?_ _ | refine blk_drew ?_ | refine blk_alloc ?_ _)); exact BK121.out) hb)
        have n2_ := Aside0.mk (blk_below (g := gb122) (o := .cells #[.int .i64 a2_0, .int .i64 a2_1] 23 (0, 0)) (by (with_reducible repeat (first | refine blk_drewN ?_ _ | refine blk_drew ?_ | refine blk_alloc ?_ _)); exact BK122.out) hb)
        have n3_ := Aside0.mk (below_step (by repeat (first | (with_reducible first | exact HB.out | apply below_alloc | apply pw_below_drewN | apply below_drew1 | refine below_set ?_ GE120.out | refine below_set ?_ GE121.out | refine below_set ?_ GE122.out) | exact HB.out)) hb)
        clear BK120
        clear BK121
        clear BK122
        clear HB
        have BK120 := n0_
        have BK121 := n1_
        have BK122 := n2_
        have HB := n3_
        clear n0_ n1_ n2_ n3_
        (try clear hb)
        (try clear hb2)
        (try clear hk)
        (try clear hi)
        refine hK.out _ _ ⟨(blk_cell BK120.out 0).trans rfl, (blk_cell BK120.out 1).trans rfl, (blk_cell BK121.out 0).trans rfl, (blk_cell BK121.out 1).trans rfl, (blk_cell BK122.out 0).trans rfl, (blk_cell BK122.out 1).trans rfl⟩ (fun hHeld => ?_)
        clear hK K
        refine norm_ (a' := ?_) ?_ ?_
        rotate_left
        · show Act.put _ (some 8) _ = _
          simp only [Act.put, List.setIfInBounds_toArray, List.set_cons_zero, List.set_cons_succ, i64_w, i32_w]
          rfl
        refine pure_ (i := 2) (N := some 9) (v := ?_) (a' := ?_) #[true, true, true, false, false, false, false, false, false, false, false, false, false, false, false, false, false, false, false, false, false, false, false, false, false] rfl rfl (any_of HT_.out (by kernel_rfl)) (fun _ _ _ h => h) (Or.inl ⟨by rfl, ?_⟩) ?_ ?_
        rotate_left
        · intro w'
          go_simp
          with_reducible rfl
        rotate_left
        · simp only [Act.put, List.setIfInBounds_toArray, List.set_cons_zero, List.set_cons_succ, i64_w, i32_w]
          rfl
        refine take_ (i := 3) (N := some 10) (v := ?_) (a' := ?_) #[true, true, true, true, false, false, false, false, false, false, false, false, false, false, false, false, false, false, false, false, false, false, false, false, false] rfl rfl (take_ofW HT_.out HW_.out (by kernel_rfl)) (fun _ _ _ h => h) (Or.inl ⟨by rfl, ?_⟩) hHeld ?_ ?_
        rotate_left
        · rintro w' ⟨s0, s1, s2, s3, s4, s5⟩
          go_simp
          with_reducible rfl
        rotate_left
        · simp only [Act.put, List.setIfInBounds_toArray, List.set_cons_zero, List.set_cons_succ, i64_w, i32_w]
          rfl
        refine one_ (i := 4) (N := some 11) #[true, true, true, true, true, false, false, false, false, false, false, false, false, false, false, false, false, false, false, false, false, false, false, false, false] rfl rfl (one_of HT_.out (by kernel_rfl)) (by decide) (fun K hK => ?_)
        refine goes_ Try.func20 (by kernel_rfl) rfl #[.agg #[.int .i64 a1_0, .int .i64 a1_1]] (by rfl) rfl rfl (by (try simp only [List.map_toArray, List.map_cons, List.map_nil]); first | done | rfl | (simp only [List.length_drop, List.length_take]; rfl)) ?_
        with_reducible refine (plane_Right.calls a1_0 a1_1 true _ A6.out).mono ?_
        rintro e w37 ⟨rfl, hb⟩
        refine ⟨_, rfl, ?_⟩
        have n0_ := Aside0.mk (blk_below (g := gb120) (o := .cells #[.int .i64 a0_0, .int .i64 a0_1] 23 (0, 0)) (by (with_reducible repeat (first | refine blk_drewN ?_ _ | refine blk_drew ?_ | refine blk_alloc ?_ _)); exact BK120.out) hb)
        have n1_ := Aside0.mk (blk_below (g := gb121) (o := .cells #[.int .i64 a1_0, .int .i64 a1_1] 23 (0, 0)) (by (with_reducible repeat (first | refine blk_drewN ?_ _ | refine blk_drew ?_ | refine blk_alloc ?_ _)); exact BK121.out) hb)
        have n2_ := Aside0.mk (blk_below (g := gb122) (o := .cells #[.int .i64 a2_0, .int .i64 a2_1] 23 (0, 0)) (by (with_reducible repeat (first | refine blk_drewN ?_ _ | refine blk_drew ?_ | refine blk_alloc ?_ _)); exact BK122.out) hb)
        have n3_ := Aside0.mk (below_step (by repeat (first | (with_reducible first | exact HB.out | apply below_alloc | apply pw_below_drewN | apply below_drew1 | refine below_set ?_ GE120.out | refine below_set ?_ GE121.out | refine below_set ?_ GE122.out) | exact HB.out)) hb)
        clear BK120
        clear BK121
        clear BK122
        clear HB
        have BK120 := n0_
        have BK121 := n1_
        have BK122 := n2_
        have HB := n3_
        clear n0_ n1_ n2_ n3_
        (try clear hb)
        (try clear hb2)
        (try clear hk)
        (try clear hi)
        refine hK.out _ _ ⟨(blk_cell BK120.out 0).trans rfl, (blk_cell BK120.out 1).trans rfl, (blk_cell BK121.out 0).trans rfl, (blk_cell BK121.out 1).trans rfl, (blk_cell BK122.out 0).trans rfl, (blk_cell BK122.out 1).trans rfl⟩ (fun hHeld => ?_)
        clear hK K
        refine norm_ (a' := ?_) ?_ ?_
        rotate_left
        · show Act.put _ (some 11) _ = _
          simp only [Act.put, List.setIfInBounds_toArray, List.set_cons_zero, List.set_cons_succ, i64_w, i32_w]
          rfl
        refine pure_ (i := 5) (N := some 12) (v := ?_) (a' := ?_) #[true, true, true, true, true, true, false, false, false, false, false, false, false, false, false, false, false, false, false, false, false, false, false, false, false] rfl rfl (any_of HT_.out (by kernel_rfl)) (fun _ _ _ h => h) (Or.inl ⟨by rfl, ?_⟩) ?_ ?_
        rotate_left
        · intro w'
          go_simp
          with_reducible rfl
        rotate_left
        · simp only [Act.put, List.setIfInBounds_toArray, List.set_cons_zero, List.set_cons_succ, i64_w, i32_w]
          rfl
        refine pure_ (i := 6) (N := some 13) (v := ?_) (a' := ?_) #[true, true, true, true, true, true, true, false, false, false, false, false, false, false, false, false, false, false, false, false, false, false, false, false, false] rfl rfl (any_of HT_.out (by kernel_rfl)) (fun _ _ _ h => h) (Or.inl ⟨by rfl, ?_⟩) ?_ ?_
        rotate_left
        · intro w'
          go_simp
          with_reducible rfl
        rotate_left
        · simp only [Act.put, List.setIfInBounds_toArray, List.set_cons_zero, List.set_cons_succ, i64_w, i32_w]
          rfl
        refine take_ (i := 7) (N := some 14) (v := ?_) (a' := ?_) #[true, true, true, true, true, true, true, true, false, false, false, false, false, false, false, false, false, false, false, false, false, false, false, false, false] rfl rfl (take_ofW HT_.out HW_.out (by kernel_rfl)) (fun _ _ _ h => h) (Or.inl ⟨by rfl, ?_⟩) hHeld ?_ ?_
        rotate_left
        · rintro w' ⟨s0, s1, s2, s3, s4, s5⟩
          go_simp
          with_reducible rfl
        rotate_left
        · simp only [Act.put, List.setIfInBounds_toArray, List.set_cons_zero, List.set_cons_succ, i64_w, i32_w]
          rfl
        refine one_ (i := 8) (N := some 15) #[true, true, true, true, true, true, true, true, true, false, false, false, false, false, false, false, false, false, false, false, false, false, false, false, false] rfl rfl (one_of HT_.out (by kernel_rfl)) (by decide) (fun K hK => ?_)
        refine goes_ Try.func20 (by kernel_rfl) rfl #[.agg #[.int .i64 a2_0, .int .i64 a2_1]] (by rfl) rfl rfl (by (try simp only [List.map_toArray, List.map_cons, List.map_nil]); first | done | rfl | (simp only [List.length_drop, List.length_take]; rfl)) ?_
        with_reducible refine (plane_Right.calls a2_0 a2_1 false _ A8.out).mono ?_
        rintro e w38 ⟨rfl, hb⟩
        refine ⟨_, rfl, ?_⟩
        have n0_ := Aside0.mk (blk_below (g := gb120) (o := .cells #[.int .i64 a0_0, .int .i64 a0_1] 23 (0, 0)) (by (with_reducible repeat (first | refine blk_drewN ?_ _ | refine blk_drew ?_ | refine blk_alloc ?_ _)); exact BK120.out) hb)
        have n1_ := Aside0.mk (blk_below (g := gb121) (o := .cells #[.int .i64 a1_0, .int .i64 a1_1] 23 (0, 0)) (by (with_reducible repeat (first | refine blk_drewN ?_ _ | refine blk_drew ?_ | refine blk_alloc ?_ _)); exact BK121.out) hb)
        have n2_ := Aside0.mk (blk_below (g := gb122) (o := .cells #[.int .i64 a2_0, .int .i64 a2_1] 23 (0, 0)) (by (with_reducible repeat (first | refine blk_drewN ?_ _ | refine blk_drew ?_ | refine blk_alloc ?_ _)); exact BK122.out) hb)
        have n3_ := Aside0.mk (below_step (by repeat (first | (with_reducible first | exact HB.out | apply below_alloc | apply pw_below_drewN | apply below_drew1 | refine below_set ?_ GE120.out | refine below_set ?_ GE121.out | refine below_set ?_ GE122.out) | exact HB.out)) hb)
        clear BK120
        clear BK121
        clear BK122
        clear HB
        have BK120 := n0_
        have BK121 := n1_
        have BK122 := n2_
        have HB := n3_
        clear n0_ n1_ n2_ n3_
        (try clear hb)
        (try clear hb2)
        (try clear hk)
        (try clear hi)
        refine hK.out _ _ ⟨(blk_cell BK120.out 0).trans rfl, (blk_cell BK120.out 1).trans rfl, (blk_cell BK121.out 0).trans rfl, (blk_cell BK121.out 1).trans rfl, (blk_cell BK122.out 0).trans rfl, (blk_cell BK122.out 1).trans rfl⟩ (fun hHeld => ?_)
        clear hK K
        refine norm_ (a' := ?_) ?_ ?_
        rotate_left
        · show Act.put _ (some 15) _ = _
          simp only [Act.put, List.setIfInBounds_toArray, List.set_cons_zero, List.set_cons_succ, i64_w, i32_w]
          rfl
        refine pure_ (i := 9) (N := some 16) (v := ?_) (a' := ?_) #[true, true, true, true, true, true, true, true, true, true, false, false, false, false, false, false, false, false, false, false, false, false, false, false, false] rfl rfl (any_of HT_.out (by kernel_rfl)) (fun _ _ _ h => h) (Or.inl ⟨by rfl, ?_⟩) ?_ ?_
        rotate_left
        · intro w'
          go_simp
          with_reducible rfl
        rotate_left
        · simp only [Act.put, List.setIfInBounds_toArray, List.set_cons_zero, List.set_cons_succ, i64_w, i32_w]
          rfl
        refine pure_ (i := 10) (N := some 17) (v := ?_) (a' := ?_) #[true, true, true, true, true, true, true, true, true, true, true, false, false, false, false, false, false, false, false, false, false, false, false, false, false] rfl rfl (any_of HT_.out (by kernel_rfl)) (fun _ _ _ h => h) (Or.inl ⟨by rfl, ?_⟩) ?_ ?_
        rotate_left
        · intro w'
          go_simp
          with_reducible rfl
        rotate_left
        · simp only [Act.put, List.setIfInBounds_toArray, List.set_cons_zero, List.set_cons_succ, i64_w, i32_w]
          rfl
        refine pure_ (i := 11) (N := some 18) (v := undef) (a' := ?_) #[true, true, true, true, true, true, true, true, true, true, true, true, false, false, false, false, false, false, false, false, false, false, false, false, false] rfl rfl (any_of HT_.out (by kernel_rfl)) (fun _ _ _ h => h) (Or.inr ⟨by rfl, rfl⟩) ?_ ?_
        rotate_left
        · simp only [Act.put, List.setIfInBounds_toArray, List.set_cons_zero, List.set_cons_succ, i64_w, i32_w]
          rfl
        refine pure_ (i := 12) (N := some 19) (v := undef) (a' := ?_) #[true, true, true, true, true, true, true, true, true, true, true, true, true, false, false, false, false, false, false, false, false, false, false, false, false] rfl rfl (any_of HT_.out (by kernel_rfl)) (fun _ _ _ h => h) (Or.inr ⟨by rfl, rfl⟩) ?_ ?_
        rotate_left
        · simp only [Act.put, List.setIfInBounds_toArray, List.set_cons_zero, List.set_cons_succ, i64_w, i32_w]
          rfl
        refine pure_ (i := 13) (N := some 20) (v := undef) (a' := ?_) #[true, true, true, true, true, true, true, true, true, true, true, true, true, true, false, false, false, false, false, false, false, false, false, false, false] rfl rfl (any_of HT_.out (by kernel_rfl)) (fun _ _ _ h => h) (Or.inr ⟨by rfl, rfl⟩) ?_ ?_
        rotate_left
        · simp only [Act.put, List.setIfInBounds_toArray, List.set_cons_zero, List.set_cons_succ, i64_w, i32_w]
          rfl
        refine pure_ (i := 14) (N := some 21) (v := undef) (a' := ?_) #[true, true, true, true, true, true, true, true, true, true, true, true, true, true, true, false, false, false, false, false, false, false, false, false, false] rfl rfl (any_of HT_.out (by kernel_rfl)) (fun _ _ _ h => h) (Or.inr ⟨by rfl, rfl⟩) ?_ ?_
        rotate_left
        · simp only [Act.put, List.setIfInBounds_toArray, List.set_cons_zero, List.set_cons_succ, i64_w, i32_w]
          rfl
        refine pure_ (i := 15) (N := some 22) (v := undef) (a' := ?_) #[true, true, true, true, true, true, true, true, true, true, true, true, true, true, true, true, false, false, false, false, false, false, false, false, false] rfl rfl (any_of HT_.out (by kernel_rfl)) (fun _ _ _ h => h) (Or.inr ⟨by rfl, rfl⟩) ?_ ?_
        rotate_left
        · simp only [Act.put, List.setIfInBounds_toArray, List.set_cons_zero, List.set_cons_succ, i64_w, i32_w]
          rfl
        refine pure_ (i := 16) (N := some 23) (v := ?_) (a' := ?_) #[true, true, true, true, true, true, true, true, true, true, true, true, true, true, true, true, true, false, false, false, false, false, false, false, false] rfl rfl (any_of HT_.out (by kernel_rfl)) (fun _ _ _ h => h) (Or.inl ⟨by rfl, ?_⟩) ?_ ?_
        rotate_left
        · intro w'
          go_simp
          with_reducible rfl
        rotate_left
        · simp only [Act.put, List.setIfInBounds_toArray, List.set_cons_zero, List.set_cons_succ, i64_w, i32_w]
          rfl
        refine pure_ (i := 17) (N := some 24) (v := ?_) (a' := ?_) #[true, true, true, true, true, true, true, true, true, true, true, true, true, true, true, true, true, true, false, false, false, false, false, false, false] rfl rfl (any_of HT_.out (by kernel_rfl)) (fun _ _ _ h => h) (Or.inl ⟨by rfl, ?_⟩) ?_ ?_
        rotate_left
        · intro w'
          go_simp
          with_reducible rfl
        rotate_left
        · simp only [Act.put, List.setIfInBounds_toArray, List.set_cons_zero, List.set_cons_succ, i64_w, i32_w]
          rfl
        refine pure_ (i := 18) (N := some 25) (v := undef) (a' := ?_) #[true, true, true, true, true, true, true, true, true, true, true, true, true, true, true, true, true, true, true, false, false, false, false, false, false] rfl rfl (any_of HT_.out (by kernel_rfl)) (fun _ _ _ h => h) (Or.inr ⟨by rfl, rfl⟩) ?_ ?_
        rotate_left
        · simp only [Act.put, List.setIfInBounds_toArray, List.set_cons_zero, List.set_cons_succ, i64_w, i32_w]
          rfl
        refine pure_ (i := 19) (N := some 26) (v := undef) (a' := ?_) #[true, true, true, true, true, true, true, true, true, true, true, true, true, true, true, true, true, true, true, true, false, false, false, false, false] rfl rfl (any_of HT_.out (by kernel_rfl)) (fun _ _ _ h => h) (Or.inr ⟨by rfl, rfl⟩) ?_ ?_
        rotate_left
        · simp only [Act.put, List.setIfInBounds_toArray, List.set_cons_zero, List.set_cons_succ, i64_w, i32_w]
          rfl
        refine pure_ (i := 20) (N := some 27) (v := undef) (a' := ?_) #[true, true, true, true, true, true, true, true, true, true, true, true, true, true, true, true, true, true, true, true, true, false, false, false, false] rfl rfl (any_of HT_.out (by kernel_rfl)) (fun _ _ _ h => h) (Or.inr ⟨by rfl, rfl⟩) ?_ ?_
        rotate_left
        · simp only [Act.put, List.setIfInBounds_toArray, List.set_cons_zero, List.set_cons_succ, i64_w, i32_w]
          rfl
        refine pure_ (i := 21) (N := some 28) (v := undef) (a' := ?_) #[true, true, true, true, true, true, true, true, true, true, true, true, true, true, true, true, true, true, true, true, true, true, false, false, false] rfl rfl (any_of HT_.out (by kernel_rfl)) (fun _ _ _ h => h) (Or.inr ⟨by rfl, rfl⟩) ?_ ?_
        rotate_left
        · simp only [Act.put, List.setIfInBounds_toArray, List.set_cons_zero, List.set_cons_succ, i64_w, i32_w]
          rfl
        refine pure_ (i := 22) (N := some 29) (v := undef) (a' := ?_) #[true, true, true, true, true, true, true, true, true, true, true, true, true, true, true, true, true, true, true, true, true, true, true, false, false] rfl rfl (any_of HT_.out (by kernel_rfl)) (fun _ _ _ h => h) (Or.inr ⟨by rfl, rfl⟩) ?_ ?_
        rotate_left
        · simp only [Act.put, List.setIfInBounds_toArray, List.set_cons_zero, List.set_cons_succ, i64_w, i32_w]
          rfl
        refine pure_ (i := 23) (N := some 30) (v := ?_) (a' := ?_) #[true, true, true, true, true, true, true, true, true, true, true, true, true, true, true, true, true, true, true, true, true, true, true, true, false] rfl rfl (any_of HT_.out (by kernel_rfl)) (fun _ _ _ h => h) (Or.inl ⟨by rfl, ?_⟩) ?_ ?_
        rotate_left
        · intro w'
          go_simp
          with_reducible rfl
        rotate_left
        · simp only [Act.put, List.setIfInBounds_toArray, List.set_cons_zero, List.set_cons_succ, i64_w, i32_w]
          rfl
        refine pure_ (i := 24) (N := some 6) (v := ?_) (a' := ?_) #[true, true, true, true, true, true, true, true, true, true, true, true, true, true, true, true, true, true, true, true, true, true, true, true, true] rfl rfl (any_of HT_.out (by kernel_rfl)) (fun _ _ _ h => h) (Or.inl ⟨by rfl, ?_⟩) ?_ ?_
        rotate_left
        · intro w'
          go_simp
          with_reducible rfl
        rotate_left
        · simp only [Act.put, List.setIfInBounds_toArray, List.set_cons_zero, List.set_cons_succ, i64_w, i32_w]
          rfl
        refine done_ (done_of HT_.out (by kernel_rfl)) ?_
        try go_wp2
        go_ret
        exact ⟨by first | rfl | (simp [errW_none, errW_some] <;> rfl) | (simp [*, errW_none, errW_some] <;> rfl), by repeat (first | (with_reducible first | exact HB.out | apply below_alloc | apply pw_below_drewN | apply below_drew1 | refine below_set ?_ GE120.out | refine below_set ?_ GE121.out | refine below_set ?_ GE122.out) | exact HB.out)⟩
    · replace c7 := Bool.eq_false_iff.mpr c7
      subst c7
      have H1 : (some false) = some r := by rw [if_neg (show ¬ (false = true) by decide)] at H; exact H
      clear H
      have H := H1
      clear H1
      obtain rfl := Option.some.inj H
      go_enter Try.func26, Try.ntmps26
      try go_wp2_with (first | ((with_reducible refine gate_dst (N := 3) rfl ?_); refine box_event ?hg (N := 3) ?hd (cs := #[.int .i64 a0_0, .int .i64 a0_1]) (t := 23) ?hr ?_; (case hd => rfl); (case hg => rfl); (case hr => first | (go_simp; done) | (go_simp; rfl)); intro gb120 hg w39 hbox hb; have n0_ := Aside0.mk (below_step (by repeat (first | (with_reducible first | exact HB.out | apply below_alloc | apply pw_below_drewN | apply below_drew1) | exact HB.out)) hb); have n1_ := Aside0.mk (hbox); have n2_ := Aside0.mk ((by rw [hg]; exact (below_size (by repeat (first | (with_reducible first | exact HB.out | apply below_alloc | apply pw_below_drewN | apply below_drew1) | exact HB.out))) : w.heap.size ≤ gb120)); have n3_ := Aside0.mk ((by rw [hg]; exact (below_size (by repeat (first | (with_reducible first | exact HB.out | apply below_alloc | apply pw_below_drewN | apply below_drew1) | exact HB.out))) : w.heap.size ≤ gb120)); clear HB; have HB := n0_; have BK120 := n1_; have GW120 := n2_; have GE120 := n3_; clear n0_ n1_ n2_ n3_; clear hb hbox hg) | ((with_reducible refine gate_dst (N := 4) rfl ?_); refine box_event ?hg (N := 4) ?hd (cs := #[.int .i64 a1_0, .int .i64 a1_1]) (t := 23) ?hr ?_; (case hd => rfl); (case hg => rfl); (case hr => first | (go_simp; done) | (go_simp; rfl)); intro gb121 hg w40 hbox hb; have n0_ := Aside0.mk (blk_below (g := gb120) (o := .cells #[.int .i64 a0_0, .int .i64 a0_1] 23 (0, 0)) (by (with_reducible repeat (first | refine blk_drewN ?_ _ | refine blk_drew ?_ | refine blk_alloc ?_ _)); exact BK120.out) hb); have n1_ := Aside0.mk (below_step (by repeat (first | (with_reducible first | exact HB.out | apply below_alloc | apply pw_below_drewN | apply below_drew1 | refine below_set ?_ GE120.out) | exact HB.out)) hb); have n2_ := Aside0.mk (hbox); have n3_ := Aside0.mk ((by rw [hg]; exact (below_size (by repeat (first | (with_reducible first | exact HB.out | apply below_alloc | apply pw_below_drewN | apply below_drew1 | refine below_set ?_ GE120.out) | exact HB.out))) : w.heap.size ≤ gb121)); have n4_ := Aside0.mk ((by rw [hg]; exact (below_size (by repeat (first | (with_reducible first | exact HB.out | apply below_alloc | apply pw_below_drewN | apply below_drew1 | refine below_set ?_ GE120.out) | exact HB.out))) : w.heap.size ≤ gb121)); have n5_ := Aside0.mk ((by rw [hg]; exact Nat.ne_of_lt (blk_lt (g := gb120) (o := .cells #[.int .i64 a0_0, .int .i64 a0_1] 23 (0, 0)) (by (with_reducible repeat (first | refine blk_drewN ?_ _ | refine blk_drew ?_ | refine blk_alloc ?_ _)); exact BK120.out)) : gb120 ≠ gb121)); have n6_ := Aside0.mk ((by rw [hg]; exact Nat.ne_of_gt (blk_lt (g := gb120) (o := .cells #[.int .i64 a0_0, .int .i64 a0_1] 23 (0, 0)) (by (with_reducible repeat (first | refine blk_drewN ?_ _ | refine blk_drew ?_ | refine blk_alloc ?_ _)); exact BK120.out)) : gb121 ≠ gb120)); clear BK120; clear HB; have BK120 := n0_; have HB := n1_; have BK121 := n2_; have GW121 := n3_; have GE121 := n4_; have NB120_121 := n5_; have NB121_120 := n6_; clear n0_ n1_ n2_ n3_ n4_ n5_ n6_; clear hb hbox hg) | ((with_reducible refine gate_dst (N := 5) rfl ?_); refine box_event ?hg (N := 5) ?hd (cs := #[.int .i64 a2_0, .int .i64 a2_1]) (t := 23) ?hr ?_; (case hd => rfl); (case hg => rfl); (case hr => first | (go_simp; done) | (go_simp; rfl)); intro gb122 hg w41 hbox hb; have n0_ := Aside0.mk (blk_below (g := gb120) (o := .cells #[.int .i64 a0_0, .int .i64 a0_1] 23 (0, 0)) (by (with_reducible repeat (first | refine blk_drewN ?_ _ | refine blk_drew ?_ | refine blk_alloc ?_ _)); exact BK120.out) hb); have n1_ := Aside0.mk (blk_below (g := gb121) (o := .cells #[.int .i64 a1_0, .int .i64 a1_1] 23 (0, 0)) (by (with_reducible repeat (first | refine blk_drewN ?_ _ | refine blk_drew ?_ | refine blk_alloc ?_ _)); exact BK121.out) hb); have n2_ := Aside0.mk (below_step (by repeat (first | (with_reducible first | exact HB.out | apply below_alloc | apply pw_below_drewN | apply below_drew1 | refine below_set ?_ GE120.out | refine below_set ?_ GE121.out) | exact HB.out)) hb); have n3_ := Aside0.mk (hbox); have n4_ := Aside0.mk ((by rw [hg]; exact (below_size (by repeat (first | (with_reducible first | exact HB.out | apply below_alloc | apply pw_below_drewN | apply below_drew1 | refine below_set ?_ GE120.out | refine below_set ?_ GE121.out) | exact HB.out))) : w.heap.size ≤ gb122)); have n5_ := Aside0.mk ((by rw [hg]; exact (below_size (by repeat (first | (with_reducible first | exact HB.out | apply below_alloc | apply pw_below_drewN | apply below_drew1 | refine below_set ?_ GE120.out | refine below_set ?_ GE121.out) | exact HB.out))) : w.heap.size ≤ gb122)); have n6_ := Aside0.mk ((by rw [hg]; exact Nat.ne_of_lt (blk_lt (g := gb120) (o := .cells #[.int .i64 a0_0, .int .i64 a0_1] 23 (0, 0)) (by (with_reducible repeat (first | refine blk_drewN ?_ _ | refine blk_drew ?_ | refine blk_alloc ?_ _)); exact BK120.out)) : gb120 ≠ gb122)); have n7_ := Aside0.mk ((by rw [hg]; exact Nat.ne_of_gt (blk_lt (g := gb120) (o := .cells #[.int .i64 a0_0, .int .i64 a0_1] 23 (0, 0)) (by (with_reducible repeat (first | refine blk_drewN ?_ _ | refine blk_drew ?_ | refine blk_alloc ?_ _)); exact BK120.out)) : gb122 ≠ gb120)); have n8_ := Aside0.mk ((by rw [hg]; exact Nat.ne_of_lt (blk_lt (g := gb121) (o := .cells #[.int .i64 a1_0, .int .i64 a1_1] 23 (0, 0)) (by (with_reducible repeat (first | refine blk_drewN ?_ _ | refine blk_drew ?_ | refine blk_alloc ?_ _)); exact BK121.out)) : gb121 ≠ gb122)); have n9_ := Aside0.mk ((by rw [hg]; exact Nat.ne_of_gt (blk_lt (g := gb121) (o := .cells #[.int .i64 a1_0, .int .i64 a1_1] 23 (0, 0)) (by (with_reducible repeat (first | refine blk_drewN ?_ _ | refine blk_drew ?_ | refine blk_alloc ?_ _)); exact BK121.out)) : gb122 ≠ gb121)); clear BK120; clear BK121; clear HB; have BK120 := n0_; have BK121 := n1_; have HB := n2_; have BK122 := n3_; have GW122 := n4_; have GE122 := n5_; have NB120_122 := n6_; have NB122_120 := n7_; have NB121_122 := n8_; have NB122_121 := n9_; clear n0_ n1_ n2_ n3_ n4_ n5_ n6_ n7_ n8_ n9_; clear hb hbox hg))
      have n0_ := Aside0.mk (blk_drew BK120.out)
      have n1_ := Aside0.mk (blk_drew BK121.out)
      have n2_ := Aside0.mk (blk_drew BK122.out)
      have n3_ := Aside0.mk (below_drew1 HB.out)
      clear BK120
      clear BK121
      clear BK122
      clear HB
      have BK120 := n0_
      have BK121 := n1_
      have BK122 := n2_
      have HB := n3_
      clear n0_ n1_ n2_ n3_
      refine start_ (n := 25) (S := fun w' => w'.cell? ⟨gb120, 0, none⟩ = some (.int .i64 a0_0) ∧ w'.cell? ⟨gb120, 1, none⟩ = some (.int .i64 a0_1) ∧ w'.cell? ⟨gb121, 0, none⟩ = some (.int .i64 a1_0) ∧ w'.cell? ⟨gb121, 1, none⟩ = some (.int .i64 a1_1)) (ds := []) #[false, false, false, false, false, false, false, false, false, false, false, false, false, false, false, false, false, false, false, false, false, false, false, false, false] (by kernel_rfl) rfl rfl ⟨(blk_cell BK120.out 0).trans rfl, (blk_cell BK120.out 1).trans rfl, (blk_cell BK121.out 0).trans rfl, (blk_cell BK121.out 1).trans rfl⟩ (fun hHeld => ?_); refine with_tabW plane_On.tab1 plane_On.bits1 (fun HT_ HW_ => ?_)
      generalize w41.drew = w42 at BK120 BK121 BK122 HB hHeld ⊢
      refine take_ (i := 0) (N := some 7) (v := ?_) (a' := ?_) #[true, false, false, false, false, false, false, false, false, false, false, false, false, false, false, false, false, false, false, false, false, false, false, false, false] rfl rfl (take_ofW HT_.out HW_.out (by kernel_rfl)) (fun _ _ _ h => h) (Or.inl ⟨by rfl, ?_⟩) hHeld ?_ ?_
      rotate_left
      · rintro w' ⟨s0, s1, s2, s3⟩
        go_simp
        with_reducible rfl
      rotate_left
      · simp only [Act.put, List.setIfInBounds_toArray, List.set_cons_zero, List.set_cons_succ, i64_w, i32_w]
        rfl
      refine one_ (i := 1) (N := some 8) #[true, true, false, false, false, false, false, false, false, false, false, false, false, false, false, false, false, false, false, false, false, false, false, false, false] rfl rfl (one_of HT_.out (by kernel_rfl)) (by decide) (fun K hK => ?_)
      refine goes_ Try.func20 (by kernel_rfl) rfl #[.agg #[.int .i64 a0_0, .int .i64 a0_1]] (by rfl) rfl rfl (by (try simp only [List.map_toArray, List.map_cons, List.map_nil]); first | done | rfl | (simp only [List.length_drop, List.length_take]; rfl)) ?_
      with_reducible refine (plane_Right.calls a0_0 a0_1 true _ A4.out).mono ?_
      rintro e w43 ⟨rfl, hb⟩
      refine ⟨_, rfl, ?_⟩
      have n0_ := Aside0.mk (blk_below (g := gb120) (o := .cells #[.int .i64 a0_0, .int .i64 a0_1] 23 (0, 0)) (by (with_reducible repeat (first | refine blk_drewN ?_ _ | refine blk_drew ?_ | refine blk_alloc ?_ _)); exact BK120.out) hb)
      have n1_ := Aside0.mk (blk_below (g := gb121) (o := .cells #[.int .i64 a1_0, .int .i64 a1_1] 23 (0, 0)) (by (with_reducible repeat (first | refine blk_drewN ?_ _ | refine blk_drew ?_ | refine blk_alloc ?_ _)); exact BK121.out) hb)
      have n2_ := Aside0.mk (blk_below (g := gb122) (o := .cells #[.int .i64 a2_0, .int .i64 a2_1] 23 (0, 0)) (by (with_reducible repeat (first | refine blk_drewN ?_ _ | refine blk_drew ?_ | refine blk_alloc ?_ _)); exact BK122.out) hb)
      have n3_ := Aside0.mk (below_step (by repeat (first | (with_reducible first | exact HB.out | apply below_alloc | apply pw_below_drewN | apply below_drew1 | refine below_set ?_ GE120.out | refine below_set ?_ GE121.out | refine below_set ?_ GE122.out) | exact HB.out)) hb)
      clear BK120
      clear BK121
      clear BK122
      clear HB
      have BK120 := n0_
      have BK121 := n1_
      have BK122 := n2_
      have HB := n3_
      clear n0_ n1_ n2_ n3_
      (try clear hb)
      (try clear hb2)
      (try clear hk)
      (try clear hi)
      refine hK.out _ _ ⟨(blk_cell BK120.out 0).trans rfl, (blk_cell BK120.out 1).trans rfl, (blk_cell BK121.out 0).trans rfl, (blk_cell BK121.out 1).trans rfl⟩ (fun hHeld => ?_)
      clear hK K
      refine norm_ (a' := ?_) ?_ ?_
      rotate_left
      · show Act.put _ (some 8) _ = _
        simp only [Act.put, List.setIfInBounds_toArray, List.set_cons_zero, List.set_cons_succ, i64_w, i32_w]
        rfl
      refine pure_ (i := 2) (N := some 9) (v := ?_) (a' := ?_) #[true, true, true, false, false, false, false, false, false, false, false, false, false, false, false, false, false, false, false, false, false, false, false, false, false] rfl rfl (any_of HT_.out (by kernel_rfl)) (fun _ _ _ h => h) (Or.inl ⟨by rfl, ?_⟩) ?_ ?_
      rotate_left
      · intro w'
        go_simp
        with_reducible rfl
      rotate_left
      · simp only [Act.put, List.setIfInBounds_toArray, List.set_cons_zero, List.set_cons_succ, i64_w, i32_w]
        rfl
      refine take_ (i := 3) (N := some 10) (v := ?_) (a' := ?_) #[true, true, true, true, false, false, false, false, false, false, false, false, false, false, false, false, false, false, false, false, false, false, false, false, false] rfl rfl (take_ofW HT_.out HW_.out (by kernel_rfl)) (fun _ _ _ h => h) (Or.inl ⟨by rfl, ?_⟩) hHeld ?_ ?_
      rotate_left
      · rintro w' ⟨s0, s1, s2, s3⟩
        go_simp
        with_reducible rfl
      rotate_left
      · simp only [Act.put, List.setIfInBounds_toArray, List.set_cons_zero, List.set_cons_succ, i64_w, i32_w]
        rfl
      refine one_ (i := 4) (N := some 11) #[true, true, true, true, true, false, false, false, false, false, false, false, false, false, false, false, false, false, false, false, false, false, false, false, false] rfl rfl (one_of HT_.out (by kernel_rfl)) (by decide) (fun K hK => ?_)
      refine goes_ Try.func20 (by kernel_rfl) rfl #[.agg #[.int .i64 a1_0, .int .i64 a1_1]] (by rfl) rfl rfl (by (try simp only [List.map_toArray, List.map_cons, List.map_nil]); first | done | rfl | (simp only [List.length_drop, List.length_take]; rfl)) ?_
      with_reducible refine (plane_Right.calls a1_0 a1_1 false _ A6.out).mono ?_
      rintro e w44 ⟨rfl, hb⟩
      refine ⟨_, rfl, ?_⟩
      have n0_ := Aside0.mk (blk_below (g := gb120) (o := .cells #[.int .i64 a0_0, .int .i64 a0_1] 23 (0, 0)) (by (with_reducible repeat (first | refine blk_drewN ?_ _ | refine blk_drew ?_ | refine blk_alloc ?_ _)); exact BK120.out) hb)
      have n1_ := Aside0.mk (blk_below (g := gb121) (o := .cells #[.int .i64 a1_0, .int .i64 a1_1] 23 (0, 0)) (by (with_reducible repeat (first | refine blk_drewN ?_ _ | refine blk_drew ?_ | refine blk_alloc ?_ _)); exact BK121.out) hb)
      have n2_ := Aside0.mk (blk_below (g := gb122) (o := .cells #[.int .i64 a2_0, .int .i64 a2_1] 23 (0, 0)) (by (with_reducible repeat (first | refine blk_drewN ?_ _ | refine blk_drew ?_ | refine blk_alloc ?_ _)); exact BK122.out) hb)
      have n3_ := Aside0.mk (below_step (by repeat (first | (with_reducible first | exact HB.out | apply below_alloc | apply pw_below_drewN | apply below_drew1 | refine below_set ?_ GE120.out | refine below_set ?_ GE121.out | refine below_set ?_ GE122.out) | exact HB.out)) hb)
      clear BK120
      clear BK121
      clear BK122
      clear HB
      have BK120 := n0_
      have BK121 := n1_
      have BK122 := n2_
      have HB := n3_
      clear n0_ n1_ n2_ n3_
      (try clear hb)
      (try clear hb2)
      (try clear hk)
      (try clear hi)
      refine hK.out _ _ ⟨(blk_cell BK120.out 0).trans rfl, (blk_cell BK120.out 1).trans rfl, (blk_cell BK121.out 0).trans rfl, (blk_cell BK121.out 1).trans rfl⟩ (fun hHeld => ?_)
      clear hK K
      refine norm_ (a' := ?_) ?_ ?_
      rotate_left
      · show Act.put _ (some 11) _ = _
        simp only [Act.put, List.setIfInBounds_toArray, List.set_cons_zero, List.set_cons_succ, i64_w, i32_w]
        rfl
      refine pure_ (i := 5) (N := some 12) (v := ?_) (a' := ?_) #[true, true, true, true, true, true, false, false, false, false, false, false, false, false, false, false, false, false, false, false, false, false, false, false, false] rfl rfl (any_of HT_.out (by kernel_rfl)) (fun _ _ _ h => h) (Or.inl ⟨by rfl, ?_⟩) ?_ ?_
      rotate_left
      · intro w'
        go_simp
        with_reducible rfl
      rotate_left
      · simp only [Act.put, List.setIfInBounds_toArray, List.set_cons_zero, List.set_cons_succ, i64_w, i32_w]
        rfl
      refine pure_ (i := 6) (N := some 13) (v := ?_) (a' := ?_) #[true, true, true, true, true, true, true, false, false, false, false, false, false, false, false, false, false, false, false, false, false, false, false, false, false] rfl rfl (any_of HT_.out (by kernel_rfl)) (fun _ _ _ h => h) (Or.inl ⟨by rfl, ?_⟩) ?_ ?_
      rotate_left
      · intro w'
        go_simp
        with_reducible rfl
      rotate_left
      · simp only [Act.put, List.setIfInBounds_toArray, List.set_cons_zero, List.set_cons_succ, i64_w, i32_w]
        rfl
      refine pure_ (i := 7) (N := some 14) (v := undef) (a' := ?_) #[true, true, true, true, true, true, true, true, false, false, false, false, false, false, false, false, false, false, false, false, false, false, false, false, false] rfl rfl (any_of HT_.out (by kernel_rfl)) (fun _ _ _ h => h) (Or.inr ⟨by rfl, rfl⟩) ?_ ?_
      rotate_left
      · simp only [Act.put, List.setIfInBounds_toArray, List.set_cons_zero, List.set_cons_succ, i64_w, i32_w]
        rfl
      refine pure_ (i := 8) (N := some 15) (v := undef) (a' := ?_) #[true, true, true, true, true, true, true, true, true, false, false, false, false, false, false, false, false, false, false, false, false, false, false, false, false] rfl rfl (any_of HT_.out (by kernel_rfl)) (fun _ _ _ h => h) (Or.inr ⟨by rfl, rfl⟩) ?_ ?_
      rotate_left
      · simp only [Act.put, List.setIfInBounds_toArray, List.set_cons_zero, List.set_cons_succ, i64_w, i32_w]
        rfl
      refine pure_ (i := 9) (N := some 16) (v := ?_) (a' := ?_) #[true, true, true, true, true, true, true, true, true, true, false, false, false, false, false, false, false, false, false, false, false, false, false, false, false] rfl rfl (any_of HT_.out (by kernel_rfl)) (fun _ _ _ h => h) (Or.inl ⟨by rfl, ?_⟩) ?_ ?_
      rotate_left
      · intro w'
        go_simp
        with_reducible rfl
      rotate_left
      · simp only [Act.put, List.setIfInBounds_toArray, List.set_cons_zero, List.set_cons_succ, i64_w, i32_w]
        rfl
      refine pure_ (i := 10) (N := some 17) (v := ?_) (a' := ?_) #[true, true, true, true, true, true, true, true, true, true, true, false, false, false, false, false, false, false, false, false, false, false, false, false, false] rfl rfl (any_of HT_.out (by kernel_rfl)) (fun _ _ _ h => h) (Or.inl ⟨by rfl, ?_⟩) ?_ ?_
      rotate_left
      · intro w'
        go_simp
        with_reducible rfl
      rotate_left
      · simp only [Act.put, List.setIfInBounds_toArray, List.set_cons_zero, List.set_cons_succ, i64_w, i32_w]
        rfl
      refine pure_ (i := 11) (N := some 18) (v := undef) (a' := ?_) #[true, true, true, true, true, true, true, true, true, true, true, true, false, false, false, false, false, false, false, false, false, false, false, false, false] rfl rfl (any_of HT_.out (by kernel_rfl)) (fun _ _ _ h => h) (Or.inr ⟨by rfl, rfl⟩) ?_ ?_
      rotate_left
      · simp only [Act.put, List.setIfInBounds_toArray, List.set_cons_zero, List.set_cons_succ, i64_w, i32_w]
        rfl
      refine pure_ (i := 12) (N := some 19) (v := undef) (a' := ?_) #[true, true, true, true, true, true, true, true, true, true, true, true, true, false, false, false, false, false, false, false, false, false, false, false, false] rfl rfl (any_of HT_.out (by kernel_rfl)) (fun _ _ _ h => h) (Or.inr ⟨by rfl, rfl⟩) ?_ ?_
      rotate_left
      · simp only [Act.put, List.setIfInBounds_toArray, List.set_cons_zero, List.set_cons_succ, i64_w, i32_w]
        rfl
      refine pure_ (i := 13) (N := some 20) (v := undef) (a' := ?_) #[true, true, true, true, true, true, true, true, true, true, true, true, true, true, false, false, false, false, false, false, false, false, false, false, false] rfl rfl (any_of HT_.out (by kernel_rfl)) (fun _ _ _ h => h) (Or.inr ⟨by rfl, rfl⟩) ?_ ?_
      rotate_left
      · simp only [Act.put, List.setIfInBounds_toArray, List.set_cons_zero, List.set_cons_succ, i64_w, i32_w]
        rfl
      refine pure_ (i := 14) (N := some 21) (v := undef) (a' := ?_) #[true, true, true, true, true, true, true, true, true, true, true, true, true, true, true, false, false, false, false, false, false, false, false, false, false] rfl rfl (any_of HT_.out (by kernel_rfl)) (fun _ _ _ h => h) (Or.inr ⟨by rfl, rfl⟩) ?_ ?_
      rotate_left
      · simp only [Act.put, List.setIfInBounds_toArray, List.set_cons_zero, List.set_cons_succ, i64_w, i32_w]
        rfl
      refine pure_ (i := 15) (N := some 22) (v := undef) (a' := ?_) #[true, true, true, true, true, true, true, true, true, true, true, true, true, true, true, true, false, false, false, false, false, false, false, false, false] rfl rfl (any_of HT_.out (by kernel_rfl)) (fun _ _ _ h => h) (Or.inr ⟨by rfl, rfl⟩) ?_ ?_
      rotate_left
      · simp only [Act.put, List.setIfInBounds_toArray, List.set_cons_zero, List.set_cons_succ, i64_w, i32_w]
        rfl
      refine pure_ (i := 16) (N := some 23) (v := ?_) (a' := ?_) #[true, true, true, true, true, true, true, true, true, true, true, true, true, true, true, true, true, false, false, false, false, false, false, false, false] rfl rfl (any_of HT_.out (by kernel_rfl)) (fun _ _ _ h => h) (Or.inl ⟨by rfl, ?_⟩) ?_ ?_
      rotate_left
      · intro w'
        go_simp
        with_reducible rfl
      rotate_left
      · simp only [Act.put, List.setIfInBounds_toArray, List.set_cons_zero, List.set_cons_succ, i64_w, i32_w]
        rfl
      refine pure_ (i := 17) (N := some 24) (v := ?_) (a' := ?_) #[true, true, true, true, true, true, true, true, true, true, true, true, true, true, true, true, true, true, false, false, false, false, false, false, false] rfl rfl (any_of HT_.out (by kernel_rfl)) (fun _ _ _ h => h) (Or.inl ⟨by rfl, ?_⟩) ?_ ?_
      rotate_left
      · intro w'
        go_simp
        with_reducible rfl
      rotate_left
      · simp only [Act.put, List.setIfInBounds_toArray, List.set_cons_zero, List.set_cons_succ, i64_w, i32_w]
        rfl
      refine pure_ (i := 18) (N := some 25) (v := undef) (a' := ?_) #[true, true, true, true, true, true, true, true, true, true, true, true, true, true, true, true, true, true, true, false, false, false, false, false, false] rfl rfl (any_of HT_.out (by kernel_rfl)) (fun _ _ _ h => h) (Or.inr ⟨by rfl, rfl⟩) ?_ ?_
      rotate_left
      · simp only [Act.put, List.setIfInBounds_toArray, List.set_cons_zero, List.set_cons_succ, i64_w, i32_w]
        rfl
      refine pure_ (i := 19) (N := some 26) (v := undef) (a' := ?_) #[true, true, true, true, true, true, true, true, true, true, true, true, true, true, true, true, true, true, true, true, false, false, false, false, false] rfl rfl (any_of HT_.out (by kernel_rfl)) (fun _ _ _ h => h) (Or.inr ⟨by rfl, rfl⟩) ?_ ?_
      rotate_left
      · simp only [Act.put, List.setIfInBounds_toArray, List.set_cons_zero, List.set_cons_succ, i64_w, i32_w]
        rfl
      refine pure_ (i := 20) (N := some 27) (v := undef) (a' := ?_) #[true, true, true, true, true, true, true, true, true, true, true, true, true, true, true, true, true, true, true, true, true, false, false, false, false] rfl rfl (any_of HT_.out (by kernel_rfl)) (fun _ _ _ h => h) (Or.inr ⟨by rfl, rfl⟩) ?_ ?_
      rotate_left
      · simp only [Act.put, List.setIfInBounds_toArray, List.set_cons_zero, List.set_cons_succ, i64_w, i32_w]
        rfl
      refine pure_ (i := 21) (N := some 28) (v := undef) (a' := ?_) #[true, true, true, true, true, true, true, true, true, true, true, true, true, true, true, true, true, true, true, true, true, true, false, false, false] rfl rfl (any_of HT_.out (by kernel_rfl)) (fun _ _ _ h => h) (Or.inr ⟨by rfl, rfl⟩) ?_ ?_
      rotate_left
      · simp only [Act.put, List.setIfInBounds_toArray, List.set_cons_zero, List.set_cons_succ, i64_w, i32_w]
        rfl
      refine pure_ (i := 22) (N := some 29) (v := undef) (a' := ?_) #[true, true, true, true, true, true, true, true, true, true, true, true, true, true, true, true, true, true, true, true, true, true, true, false, false] rfl rfl (any_of HT_.out (by kernel_rfl)) (fun _ _ _ h => h) (Or.inr ⟨by rfl, rfl⟩) ?_ ?_
      rotate_left
      · simp only [Act.put, List.setIfInBounds_toArray, List.set_cons_zero, List.set_cons_succ, i64_w, i32_w]
        rfl
      refine pure_ (i := 23) (N := some 30) (v := ?_) (a' := ?_) #[true, true, true, true, true, true, true, true, true, true, true, true, true, true, true, true, true, true, true, true, true, true, true, true, false] rfl rfl (any_of HT_.out (by kernel_rfl)) (fun _ _ _ h => h) (Or.inl ⟨by rfl, ?_⟩) ?_ ?_
      rotate_left
      · intro w'
        go_simp
        with_reducible rfl
      rotate_left
      · simp only [Act.put, List.setIfInBounds_toArray, List.set_cons_zero, List.set_cons_succ, i64_w, i32_w]
        rfl
      refine pure_ (i := 24) (N := some 6) (v := ?_) (a' := ?_) #[true, true, true, true, true, true, true, true, true, true, true, true, true, true, true, true, true, true, true, true, true, true, true, true, true] rfl rfl (any_of HT_.out (by kernel_rfl)) (fun _ _ _ h => h) (Or.inl ⟨by rfl, ?_⟩) ?_ ?_
      rotate_left
      · intro w'
        go_simp
        with_reducible rfl
      rotate_left
      · simp only [Act.put, List.setIfInBounds_toArray, List.set_cons_zero, List.set_cons_succ, i64_w, i32_w]
        rfl
      refine done_ (done_of HT_.out (by kernel_rfl)) ?_
      try go_wp2
      go_ret
      exact ⟨by first | rfl | (simp [errW_none, errW_some] <;> rfl) | (simp [*, errW_none, errW_some] <;> rfl), by repeat (first | (with_reducible first | exact HB.out | apply below_alloc | apply pw_below_drewN | apply below_drew1 | refine below_set ?_ GE120.out | refine below_set ?_ GE121.out | refine below_set ?_ GE122.out) | exact HB.out)⟩
  · replace c5 := Bool.eq_false_iff.mpr c5
    subst c5
    have H1 : (some false) = some r := by rw [if_neg (show ¬ (false = true) by decide)] at H; exact H
    clear H
    have H := H1
    clear H1
    obtain rfl := Option.some.inj H
    go_enter Try.func26, Try.ntmps26
    try go_wp2_with (first | ((with_reducible refine gate_dst (N := 3) rfl ?_); refine box_event ?hg (N := 3) ?hd (cs := #[.int .i64 a0_0, .int .i64 a0_1]) (t := 23) ?hr ?_; (case hd => rfl); (case hg => rfl); (case hr => first | (go_simp; done) | (go_simp; rfl)); intro gb120 hg w45 hbox hb; have n0_ := Aside0.mk (below_step (by repeat (first | (with_reducible first | exact HB.out | apply below_alloc | apply pw_below_drewN | apply below_drew1) | exact HB.out)) hb); have n1_ := Aside0.mk (hbox); have n2_ := Aside0.mk ((by rw [hg]; exact (below_size (by repeat (first | (with_reducible first | exact HB.out | apply below_alloc | apply pw_below_drewN | apply below_drew1) | exact HB.out))) : w.heap.size ≤ gb120)); have n3_ := Aside0.mk ((by rw [hg]; exact (below_size (by repeat (first | (with_reducible first | exact HB.out | apply below_alloc | apply pw_below_drewN | apply below_drew1) | exact HB.out))) : w.heap.size ≤ gb120)); clear HB; have HB := n0_; have BK120 := n1_; have GW120 := n2_; have GE120 := n3_; clear n0_ n1_ n2_ n3_; clear hb hbox hg) | ((with_reducible refine gate_dst (N := 4) rfl ?_); refine box_event ?hg (N := 4) ?hd (cs := #[.int .i64 a1_0, .int .i64 a1_1]) (t := 23) ?hr ?_; (case hd => rfl); (case hg => rfl); (case hr => first | (go_simp; done) | (go_simp; rfl)); intro gb121 hg w46 hbox hb; have n0_ := Aside0.mk (blk_below (g := gb120) (o := .cells #[.int .i64 a0_0, .int .i64 a0_1] 23 (0, 0)) (by (with_reducible repeat (first | refine blk_drewN ?_ _ | refine blk_drew ?_ | refine blk_alloc ?_ _)); exact BK120.out) hb); have n1_ := Aside0.mk (below_step (by repeat (first | (with_reducible first | exact HB.out | apply below_alloc | apply pw_below_drewN | apply below_drew1 | refine below_set ?_ GE120.out) | exact HB.out)) hb); have n2_ := Aside0.mk (hbox); have n3_ := Aside0.mk ((by rw [hg]; exact (below_size (by repeat (first | (with_reducible first | exact HB.out | apply below_alloc | apply pw_below_drewN | apply below_drew1 | refine below_set ?_ GE120.out) | exact HB.out))) : w.heap.size ≤ gb121)); have n4_ := Aside0.mk ((by rw [hg]; exact (below_size (by repeat (first | (with_reducible first | exact HB.out | apply below_alloc | apply pw_below_drewN | apply below_drew1 | refine below_set ?_ GE120.out) | exact HB.out))) : w.heap.size ≤ gb121)); have n5_ := Aside0.mk ((by rw [hg]; exact Nat.ne_of_lt (blk_lt (g := gb120) (o := .cells #[.int .i64 a0_0, .int .i64 a0_1] 23 (0, 0)) (by (with_reducible repeat (first | refine blk_drewN ?_ _ | refine blk_drew ?_ | refine blk_alloc ?_ _)); exact BK120.out)) : gb120 ≠ gb121)); have n6_ := Aside0.mk ((by rw [hg]; exact Nat.ne_of_gt (blk_lt (g := gb120) (o := .cells #[.int .i64 a0_0, .int .i64 a0_1] 23 (0, 0)) (by (with_reducible repeat (first | refine blk_drewN ?_ _ | refine blk_drew ?_ | refine blk_alloc ?_ _)); exact BK120.out)) : gb121 ≠ gb120)); clear BK120; clear HB; have BK120 := n0_; have HB := n1_; have BK121 := n2_; have GW121 := n3_; have GE121 := n4_; have NB120_121 := n5_; have NB121_120 := n6_; clear n0_ n1_ n2_ n3_ n4_ n5_ n6_; clear hb hbox hg) | ((with_reducible refine gate_dst (N := 5) rfl ?_); refine box_event ?hg (N := 5) ?hd (cs := #[.int .i64 a2_0, .int .i64 a2_1]) (t := 23) ?hr ?_; (case hd => rfl); (case hg => rfl); (case hr => first | (go_simp; done) | (go_simp; rfl)); intro gb122 hg w47 hbox hb; have n0_ := Aside0.mk (blk_below (g := gb120) (o := .cells #[.int .i64 a0_0, .int .i64 a0_1] 23 (0, 0)) (by (with_reducible repeat (first | refine blk_drewN ?_ _ | refine blk_drew ?_ | refine blk_alloc ?_ _)); exact BK120.out) hb); have n1_ := Aside0.mk (blk_below (g := gb121) (o := .cells #[.int .i64 a1_0, .int .i64 a1_1] 23 (0, 0)) (by (with_reducible repeat (first | refine blk_drewN ?_ _ | refine blk_drew ?_ | refine blk_alloc ?_ _)); exact BK121.out) hb); have n2_ := Aside0.mk (below_step (by repeat (first | (with_reducible first | exact HB.out | apply below_alloc | apply pw_below_drewN | apply below_drew1 | refine below_set ?_ GE120.out | refine below_set ?_ GE121.out) | exact HB.out)) hb); have n3_ := Aside0.mk (hbox); have n4_ := Aside0.mk ((by rw [hg]; exact (below_size (by repeat (first | (with_reducible first | exact HB.out | apply below_alloc | apply pw_below_drewN | apply below_drew1 | refine below_set ?_ GE120.out | refine below_set ?_ GE121.out) | exact HB.out))) : w.heap.size ≤ gb122)); have n5_ := Aside0.mk ((by rw [hg]; exact (below_size (by repeat (first | (with_reducible first | exact HB.out | apply below_alloc | apply pw_below_drewN | apply below_drew1 | refine below_set ?_ GE120.out | refine below_set ?_ GE121.out) | exact HB.out))) : w.heap.size ≤ gb122)); have n6_ := Aside0.mk ((by rw [hg]; exact Nat.ne_of_lt (blk_lt (g := gb120) (o := .cells #[.int .i64 a0_0, .int .i64 a0_1] 23 (0, 0)) (by (with_reducible repeat (first | refine blk_drewN ?_ _ | refine blk_drew ?_ | refine blk_alloc ?_ _)); exact BK120.out)) : gb120 ≠ gb122)); have n7_ := Aside0.mk ((by rw [hg]; exact Nat.ne_of_gt (blk_lt (g := gb120) (o := .cells #[.int .i64 a0_0, .int .i64 a0_1] 23 (0, 0)) (by (with_reducible repeat (first | refine blk_drewN ?_ _ | refine blk_drew ?_ | refine blk_alloc ?_ _)); exact BK120.out)) : gb122 ≠ gb120)); have n8_ := Aside0.mk ((by rw [hg]; exact Nat.ne_of_lt (blk_lt (g := gb121) (o := .cells #[.int .i64 a1_0, .int .i64 a1_1] 23 (0, 0)) (by (with_reducible repeat (first | refine blk_drewN ?_ _ | refine blk_drew ?_ | refine blk_alloc ?_ _)); exact BK121.out)) : gb121 ≠ gb122)); have n9_ := Aside0.mk ((by rw [hg]; exact Nat.ne_of_gt (blk_lt (g := gb121) (o := .cells #[.int .i64 a1_0, .int .i64 a1_1] 23 (0, 0)) (by (with_reducible repeat (first | refine blk_drewN ?_ _ | refine blk_drew ?_ | refine blk_alloc ?_ _)); exact BK121.out)) : gb122 ≠ gb121)); clear BK120; clear BK121; clear HB; have BK120 := n0_; have BK121 := n1_; have HB := n2_; have BK122 := n3_; have GW122 := n4_; have GE122 := n5_; have NB120_122 := n6_; have NB122_120 := n7_; have NB121_122 := n8_; have NB122_121 := n9_; clear n0_ n1_ n2_ n3_ n4_ n5_ n6_ n7_ n8_ n9_; clear hb hbox hg))
    have n0_ := Aside0.mk (blk_drew BK120.out)
    have n1_ := Aside0.mk (blk_drew BK121.out)
    have n2_ := Aside0.mk (blk_drew BK122.out)
    have n3_ := Aside0.mk (below_drew1 HB.out)
    clear BK120
    clear BK121
    clear BK122
    clear HB
    have BK120 := n0_
    have BK121 := n1_
    have BK122 := n2_
    have HB := n3_
    clear n0_ n1_ n2_ n3_
    refine start_ (n := 25) (S := fun w' => w'.cell? ⟨gb120, 0, none⟩ = some (.int .i64 a0_0) ∧ w'.cell? ⟨gb120, 1, none⟩ = some (.int .i64 a0_1)) (ds := []) #[false, false, false, false, false, false, false, false, false, false, false, false, false, false, false, false, false, false, false, false, false, false, false, false, false] (by kernel_rfl) rfl rfl ⟨(blk_cell BK120.out 0).trans rfl, (blk_cell BK120.out 1).trans rfl⟩ (fun hHeld => ?_); refine with_tabW plane_On.tab1 plane_On.bits1 (fun HT_ HW_ => ?_)
    generalize w47.drew = w48 at BK120 BK121 BK122 HB hHeld ⊢
    refine take_ (i := 0) (N := some 7) (v := ?_) (a' := ?_) #[true, false, false, false, false, false, false, false, false, false, false, false, false, false, false, false, false, false, false, false, false, false, false, false, false] rfl rfl (take_ofW HT_.out HW_.out (by kernel_rfl)) (fun _ _ _ h => h) (Or.inl ⟨by rfl, ?_⟩) hHeld ?_ ?_
    rotate_left
    · rintro w' ⟨s0, s1⟩
      go_simp
      with_reducible rfl
    rotate_left
    · simp only [Act.put, List.setIfInBounds_toArray, List.set_cons_zero, List.set_cons_succ, i64_w, i32_w]
      rfl
    refine one_ (i := 1) (N := some 8) #[true, true, false, false, false, false, false, false, false, false, false, false, false, false, false, false, false, false, false, false, false, false, false, false, false] rfl rfl (one_of HT_.out (by kernel_rfl)) (by decide) (fun K hK => ?_)
    refine goes_ Try.func20 (by kernel_rfl) rfl #[.agg #[.int .i64 a0_0, .int .i64 a0_1]] (by rfl) rfl rfl (by (try simp only [List.map_toArray, List.map_cons, List.map_nil]); first | done | rfl | (simp only [List.length_drop, List.length_take]; rfl)) ?_
    with_reducible refine (plane_Right.calls a0_0 a0_1 false _ A4.out).mono ?_
    rintro e w49 ⟨rfl, hb⟩
    refine ⟨_, rfl, ?_⟩
    have n0_ := Aside0.mk (blk_below (g := gb120) (o := .cells #[.int .i64 a0_0, .int .i64 a0_1] 23 (0, 0)) (by (with_reducible repeat (first | refine blk_drewN ?_ _ | refine blk_drew ?_ | refine blk_alloc ?_ _)); exact BK120.out) hb)
    have n1_ := Aside0.mk (blk_below (g := gb121) (o := .cells #[.int .i64 a1_0, .int .i64 a1_1] 23 (0, 0)) (by (with_reducible repeat (first | refine blk_drewN ?_ _ | refine blk_drew ?_ | refine blk_alloc ?_ _)); exact BK121.out) hb)
    have n2_ := Aside0.mk (blk_below (g := gb122) (o := .cells #[.int .i64 a2_0, .int .i64 a2_1] 23 (0, 0)) (by (with_reducible repeat (first | refine blk_drewN ?_ _ | refine blk_drew ?_ | refine blk_alloc ?_ _)); exact BK122.out) hb)
    have n3_ := Aside0.mk (below_step (by repeat (first | (with_reducible first | exact HB.out | apply below_alloc | apply pw_below_drewN | apply below_drew1 | refine below_set ?_ GE120.out | refine below_set ?_ GE121.out | refine below_set ?_ GE122.out) | exact HB.out)) hb)
    clear BK120
    clear BK121
    clear BK122
    clear HB
    have BK120 := n0_
    have BK121 := n1_
    have BK122 := n2_
    have HB := n3_
    clear n0_ n1_ n2_ n3_
    (try clear hb)
    (try clear hb2)
    (try clear hk)
    (try clear hi)
    refine hK.out _ _ ⟨(blk_cell BK120.out 0).trans rfl, (blk_cell BK120.out 1).trans rfl⟩ (fun hHeld => ?_)
    clear hK K
    refine norm_ (a' := ?_) ?_ ?_
    rotate_left
    · show Act.put _ (some 8) _ = _
      simp only [Act.put, List.setIfInBounds_toArray, List.set_cons_zero, List.set_cons_succ, i64_w, i32_w]
      rfl
    refine pure_ (i := 2) (N := some 9) (v := ?_) (a' := ?_) #[true, true, true, false, false, false, false, false, false, false, false, false, false, false, false, false, false, false, false, false, false, false, false, false, false] rfl rfl (any_of HT_.out (by kernel_rfl)) (fun _ _ _ h => h) (Or.inl ⟨by rfl, ?_⟩) ?_ ?_
    rotate_left
    · intro w'
      go_simp
      with_reducible rfl
    rotate_left
    · simp only [Act.put, List.setIfInBounds_toArray, List.set_cons_zero, List.set_cons_succ, i64_w, i32_w]
      rfl
    refine pure_ (i := 3) (N := some 10) (v := undef) (a' := ?_) #[true, true, true, true, false, false, false, false, false, false, false, false, false, false, false, false, false, false, false, false, false, false, false, false, false] rfl rfl (any_of HT_.out (by kernel_rfl)) (fun _ _ _ h => h) (Or.inr ⟨by rfl, rfl⟩) ?_ ?_
    rotate_left
    · simp only [Act.put, List.setIfInBounds_toArray, List.set_cons_zero, List.set_cons_succ, i64_w, i32_w]
      rfl
    refine pure_ (i := 4) (N := some 11) (v := undef) (a' := ?_) #[true, true, true, true, true, false, false, false, false, false, false, false, false, false, false, false, false, false, false, false, false, false, false, false, false] rfl rfl (any_of HT_.out (by kernel_rfl)) (fun _ _ _ h => h) (Or.inr ⟨by rfl, rfl⟩) ?_ ?_
    rotate_left
    · simp only [Act.put, List.setIfInBounds_toArray, List.set_cons_zero, List.set_cons_succ, i64_w, i32_w]
      rfl
    refine pure_ (i := 5) (N := some 12) (v := ?_) (a' := ?_) #[true, true, true, true, true, true, false, false, false, false, false, false, false, false, false, false, false, false, false, false, false, false, false, false, false] rfl rfl (any_of HT_.out (by kernel_rfl)) (fun _ _ _ h => h) (Or.inl ⟨by rfl, ?_⟩) ?_ ?_
    rotate_left
    · intro w'
      go_simp
      with_reducible rfl
    rotate_left
    · simp only [Act.put, List.setIfInBounds_toArray, List.set_cons_zero, List.set_cons_succ, i64_w, i32_w]
      rfl
    refine pure_ (i := 6) (N := some 13) (v := ?_) (a' := ?_) #[true, true, true, true, true, true, true, false, false, false, false, false, false, false, false, false, false, false, false, false, false, false, false, false, false] rfl rfl (any_of HT_.out (by kernel_rfl)) (fun _ _ _ h => h) (Or.inl ⟨by rfl, ?_⟩) ?_ ?_
    rotate_left
    · intro w'
      go_simp
      with_reducible rfl
    rotate_left
    · simp only [Act.put, List.setIfInBounds_toArray, List.set_cons_zero, List.set_cons_succ, i64_w, i32_w]
      rfl
    refine pure_ (i := 7) (N := some 14) (v := undef) (a' := ?_) #[true, true, true, true, true, true, true, true, false, false, false, false, false, false, false, false, false, false, false, false, false, false, false, false, false] rfl rfl (any_of HT_.out (by kernel_rfl)) (fun _ _ _ h => h) (Or.inr ⟨by rfl, rfl⟩) ?_ ?_
    rotate_left
    · simp only [Act.put, List.setIfInBounds_toArray, List.set_cons_zero, List.set_cons_succ, i64_w, i32_w]
      rfl
    refine pure_ (i := 8) (N := some 15) (v := undef) (a' := ?_) #[true, true, true, true, true, true, true, true, true, false, false, false, false, false, false, false, false, false, false, false, false, false, false, false, false] rfl rfl (any_of HT_.out (by kernel_rfl)) (fun _ _ _ h => h) (Or.inr ⟨by rfl, rfl⟩) ?_ ?_
    rotate_left
    · simp only [Act.put, List.setIfInBounds_toArray, List.set_cons_zero, List.set_cons_succ, i64_w, i32_w]
      rfl
    refine pure_ (i := 9) (N := some 16) (v := ?_) (a' := ?_) #[true, true, true, true, true, true, true, true, true, true, false, false, false, false, false, false, false, false, false, false, false, false, false, false, false] rfl rfl (any_of HT_.out (by kernel_rfl)) (fun _ _ _ h => h) (Or.inl ⟨by rfl, ?_⟩) ?_ ?_
    rotate_left
    · intro w'
      go_simp
      with_reducible rfl
    rotate_left
    · simp only [Act.put, List.setIfInBounds_toArray, List.set_cons_zero, List.set_cons_succ, i64_w, i32_w]
      rfl
    refine pure_ (i := 10) (N := some 17) (v := ?_) (a' := ?_) #[true, true, true, true, true, true, true, true, true, true, true, false, false, false, false, false, false, false, false, false, false, false, false, false, false] rfl rfl (any_of HT_.out (by kernel_rfl)) (fun _ _ _ h => h) (Or.inl ⟨by rfl, ?_⟩) ?_ ?_
    rotate_left
    · intro w'
      go_simp
      with_reducible rfl
    rotate_left
    · simp only [Act.put, List.setIfInBounds_toArray, List.set_cons_zero, List.set_cons_succ, i64_w, i32_w]
      rfl
    refine pure_ (i := 11) (N := some 18) (v := undef) (a' := ?_) #[true, true, true, true, true, true, true, true, true, true, true, true, false, false, false, false, false, false, false, false, false, false, false, false, false] rfl rfl (any_of HT_.out (by kernel_rfl)) (fun _ _ _ h => h) (Or.inr ⟨by rfl, rfl⟩) ?_ ?_
    rotate_left
    · simp only [Act.put, List.setIfInBounds_toArray, List.set_cons_zero, List.set_cons_succ, i64_w, i32_w]
      rfl
    refine pure_ (i := 12) (N := some 19) (v := undef) (a' := ?_) #[true, true, true, true, true, true, true, true, true, true, true, true, true, false, false, false, false, false, false, false, false, false, false, false, false] rfl rfl (any_of HT_.out (by kernel_rfl)) (fun _ _ _ h => h) (Or.inr ⟨by rfl, rfl⟩) ?_ ?_
    rotate_left
    · simp only [Act.put, List.setIfInBounds_toArray, List.set_cons_zero, List.set_cons_succ, i64_w, i32_w]
      rfl
    refine pure_ (i := 13) (N := some 20) (v := undef) (a' := ?_) #[true, true, true, true, true, true, true, true, true, true, true, true, true, true, false, false, false, false, false, false, false, false, false, false, false] rfl rfl (any_of HT_.out (by kernel_rfl)) (fun _ _ _ h => h) (Or.inr ⟨by rfl, rfl⟩) ?_ ?_
    rotate_left
    · simp only [Act.put, List.setIfInBounds_toArray, List.set_cons_zero, List.set_cons_succ, i64_w, i32_w]
      rfl
    refine pure_ (i := 14) (N := some 21) (v := undef) (a' := ?_) #[true, true, true, true, true, true, true, true, true, true, true, true, true, true, true, false, false, false, false, false, false, false, false, false, false] rfl rfl (any_of HT_.out (by kernel_rfl)) (fun _ _ _ h => h) (Or.inr ⟨by rfl, rfl⟩) ?_ ?_
    rotate_left
    · simp only [Act.put, List.setIfInBounds_toArray, List.set_cons_zero, List.set_cons_succ, i64_w, i32_w]
      rfl
    refine pure_ (i := 15) (N := some 22) (v := undef) (a' := ?_) #[true, true, true, true, true, true, true, true, true, true, true, true, true, true, true, true, false, false, false, false, false, false, false, false, false] rfl rfl (any_of HT_.out (by kernel_rfl)) (fun _ _ _ h => h) (Or.inr ⟨by rfl, rfl⟩) ?_ ?_
    rotate_left
    · simp only [Act.put, List.setIfInBounds_toArray, List.set_cons_zero, List.set_cons_succ, i64_w, i32_w]
      rfl
    refine pure_ (i := 16) (N := some 23) (v := ?_) (a' := ?_) #[true, true, true, true, true, true, true, true, true, true, true, true, true, true, true, true, true, false, false, false, false, false, false, false, false] rfl rfl (any_of HT_.out (by kernel_rfl)) (fun _ _ _ h => h) (Or.inl ⟨by rfl, ?_⟩) ?_ ?_
    rotate_left
    · intro w'
      go_simp
      with_reducible rfl
    rotate_left
    · simp only [Act.put, List.setIfInBounds_toArray, List.set_cons_zero, List.set_cons_succ, i64_w, i32_w]
      rfl
    refine pure_ (i := 17) (N := some 24) (v := ?_) (a' := ?_) #[true, true, true, true, true, true, true, true, true, true, true, true, true, true, true, true, true, true, false, false, false, false, false, false, false] rfl rfl (any_of HT_.out (by kernel_rfl)) (fun _ _ _ h => h) (Or.inl ⟨by rfl, ?_⟩) ?_ ?_
    rotate_left
    · intro w'
      go_simp
      with_reducible rfl
    rotate_left
    · simp only [Act.put, List.setIfInBounds_toArray, List.set_cons_zero, List.set_cons_succ, i64_w, i32_w]
      rfl
    refine pure_ (i := 18) (N := some 25) (v := undef) (a' := ?_) #[true, true, true, true, true, true, true, true, true, true, true, true, true, true, true, true, true, true, true, false, false, false, false, false, false] rfl rfl (any_of HT_.out (by kernel_rfl)) (fun _ _ _ h => h) (Or.inr ⟨by rfl, rfl⟩) ?_ ?_
    rotate_left
    · simp only [Act.put, List.setIfInBounds_toArray, List.set_cons_zero, List.set_cons_succ, i64_w, i32_w]
      rfl
    refine pure_ (i := 19) (N := some 26) (v := undef) (a' := ?_) #[true, true, true, true, true, true, true, true, true, true, true, true, true, true, true, true, true, true, true, true, false, false, false, false, false] rfl rfl (any_of HT_.out (by kernel_rfl)) (fun _ _ _ h => h) (Or.inr ⟨by rfl, rfl⟩) ?_ ?_
    rotate_left
    · simp only [Act.put, List.setIfInBounds_toArray, List.set_cons_zero, List.set_cons_succ, i64_w, i32_w]
      rfl
    refine pure_ (i := 20) (N := some 27) (v := undef) (a' := ?_) #[true, true, true, true, true, true, true, true, true, true, true, true, true, true, true, true, true, true, true, true, true, false, false, false, false] rfl rfl (any_of HT_.out (by kernel_rfl)) (fun _ _ _ h => h) (Or.inr ⟨by rfl, rfl⟩) ?_ ?_
    rotate_left
    · simp only [Act.put, List.setIfInBounds_toArray, List.set_cons_zero, List.set_cons_succ, i64_w, i32_w]
      rfl
    refine pure_ (i := 21) (N := some 28) (v := undef) (a' := ?_) #[true, true, true, true, true, true, true, true, true, true, true, true, true, true, true, true, true, true, true, true, true, true, false, false, false] rfl rfl (any_of HT_.out (by kernel_rfl)) (fun _ _ _ h => h) (Or.inr ⟨by rfl, rfl⟩) ?_ ?_
    rotate_left
    · simp only [Act.put, List.setIfInBounds_toArray, List.set_cons_zero, List.set_cons_succ, i64_w, i32_w]
      rfl
    refine pure_ (i := 22) (N := some 29) (v := undef) (a' := ?_) #[true, true, true, true, true, true, true, true, true, true, true, true, true, true, true, true, true, true, true, true, true, true, true, false, false] rfl rfl (any_of HT_.out (by kernel_rfl)) (fun _ _ _ h => h) (Or.inr ⟨by rfl, rfl⟩) ?_ ?_
    rotate_left
    · simp only [Act.put, List.setIfInBounds_toArray, List.set_cons_zero, List.set_cons_succ, i64_w, i32_w]
      rfl
    refine pure_ (i := 23) (N := some 30) (v := ?_) (a' := ?_) #[true, true, true, true, true, true, true, true, true, true, true, true, true, true, true, true, true, true, true, true, true, true, true, true, false] rfl rfl (any_of HT_.out (by kernel_rfl)) (fun _ _ _ h => h) (Or.inl ⟨by rfl, ?_⟩) ?_ ?_
    rotate_left
    · intro w'
      go_simp
      with_reducible rfl
    rotate_left
    · simp only [Act.put, List.setIfInBounds_toArray, List.set_cons_zero, List.set_cons_succ, i64_w, i32_w]
      rfl
    refine pure_ (i := 24) (N := some 6) (v := ?_) (a' := ?_) #[true, true, true, true, true, true, true, true, true, true, true, true, true, true, true, true, true, true, true, true, true, true, true, true, true] rfl rfl (any_of HT_.out (by kernel_rfl)) (fun _ _ _ h => h) (Or.inl ⟨by rfl, ?_⟩) ?_ ?_
    rotate_left
    · intro w'
      go_simp
      with_reducible rfl
    rotate_left
    · simp only [Act.put, List.setIfInBounds_toArray, List.set_cons_zero, List.set_cons_succ, i64_w, i32_w]
      rfl
    refine done_ (done_of HT_.out (by kernel_rfl)) ?_
    try go_wp2
    go_ret
    exact ⟨by first | rfl | (simp [errW_none, errW_some] <;> rfl) | (simp [*, errW_none, errW_some] <;> rfl), by repeat (first | (with_reducible first | exact HB.out | apply below_alloc | apply pw_below_drewN | apply below_drew1 | refine below_set ?_ GE120.out | refine below_set ?_ GE121.out | refine below_set ?_ GE122.out) | exact HB.out)⟩

end Go.Proofs.Ytpfgjagpaddcpaa.X

/-! Which points are right; the closure that Area hands on; IndexFunc and ContainsFunc over it. -/
namespace Go.Proofs.Ytpfgjagpaddcpaa.Own
open Go.RowKit Go.Proofs.YtpfgjagpaddcpaaW.PrintWords Go.Proofs.YtpfgjagpaddcpaaW.PrintLast Go.Proofs.YtpfgjagpaddcpaaW.PrintMore
open Go.Proofs.Ytpfgjagpaddcpaa.X
set_option linter.unusedVariables false
set_option linter.unusedSimpArgs false

theorem cell_on {W w' : World} {a : Addr} {v : Value} (hb : Below W.heap.size W w') (h : W.cell? a = some v) : w'.cell? a = some v := (hb.cell (World.block_lt_of_cell? W _ h)).trans h

/-- A point as a value. -/
abbrev ptV (x y : Int) : Value := .agg #[.int .i64 x, .int .i64 y]

/-- Which points are right. -/
def rightB (x y : Int) : Bool := decide (-536870912 ≤ x ∧ x ≤ 536870912 ∧ -536870912 ≤ y ∧ y ≤ 536870912)

theorem right_f (x y : Int) : plane_Right.f x y = some (rightB x y) := by
  unfold plane_Right.f rightB
  by_cases h1 : x ≥ -536870912 <;> by_cases h2 : x ≤ 536870912 <;> by_cases h3 : y ≥ -536870912 <;> by_cases h4 : y ≤ 536870912 <;> simp [h1, h2, h3, h4] <;> omega

theorem right_any (x y : Int) (w : World) : Calls Try.prog 20 #[ptV x y] w fun e w' => e = .returned (.bool (rightB x y)) ∧ Below w.heap.size w w' :=
  plane_Right.calls x y _ w (right_f x y)

/-- Cross. -/
def crossB (ox oy ax ay bx by_ : Int) : Int :=
  if rightB ox oy = true ∧ rightB ax ay = true ∧ rightB bx by_ = true then (ax - ox) * (by_ - oy) - (ay - oy) * (bx - ox) else 0

theorem rightB_iff (x y : Int) : rightB x y = true ↔ (-536870912 ≤ x ∧ x ≤ 536870912 ∧ -536870912 ≤ y ∧ y ≤ 536870912) := by
  unfold rightB
  exact decide_eq_true_iff

theorem mul_bd {a b : Int} (ha : -1073741824 ≤ a ∧ a ≤ 1073741824) (hb : -1073741824 ≤ b ∧ b ≤ 1073741824) : -1152921504606846976 ≤ a * b ∧ a * b ≤ 1152921504606846976 := by
  have h1 : a.natAbs * b.natAbs ≤ 1073741824 * 1073741824 := Nat.mul_le_mul (by omega) (by omega)
  have h2 := Int.natAbs_mul a b
  omega

theorem cross_f (ox oy ax ay bx by_ : Int) : plane_Cross.f ox oy ax ay bx by_ = some (crossB ox oy ax ay bx by_) := by
  unfold plane_Cross.f crossB
  simp only [right_f, Option.bind_some]
  cases h1 : rightB ox oy with
  | false => simp
  | true =>
    cases h2 : rightB ax ay with
    | false => simp
    | true =>
      cases h3 : rightB bx by_ with
      | false => simp
      | true =>
        rw [rightB_iff] at h1 h2 h3
        simp only [if_true, and_self, Option.some.injEq]
        have e1 : wrap64 (ax - ox) = ax - ox := by unfold wrap64; omega
        have e2 : wrap64 (by_ - oy) = by_ - oy := by unfold wrap64; omega
        have e3 : wrap64 (ay - oy) = ay - oy := by unfold wrap64; omega
        have e4 : wrap64 (bx - ox) = bx - ox := by unfold wrap64; omega
        rw [e1, e2, e3, e4]
        have m1 := mul_bd (a := ax - ox) (b := by_ - oy) (by omega) (by omega)
        have m2 := mul_bd (a := ay - oy) (b := bx - ox) (by omega) (by omega)
        generalize (ax - ox) * (by_ - oy) = p at *
        generalize (ay - oy) * (bx - ox) = q at *
        have e5 : wrap64 p = p := by unfold wrap64; omega
        have e6 : wrap64 q = q := by unfold wrap64; omega
        rw [e5, e6]
        unfold wrap64
        omega

end Go.Proofs.Ytpfgjagpaddcpaa.Own

/-! The plane's functions as plain functions of numbers, and the triangle that each law of the plane asks for. -/
namespace Go.Proofs.Ytpfgjagpaddcpaa.Own
open Go.RowKit Go.Proofs.YtpfgjagpaddcpaaW.PrintWords Go.Proofs.YtpfgjagpaddcpaaW.PrintLast Go.Proofs.YtpfgjagpaddcpaaW.PrintMore
open Go.Proofs.Ytpfgjagpaddcpaa.X
set_option linter.unusedVariables false
set_option linter.unusedSimpArgs false

def sgn (n : Int) : Int := if n < 0 then -1 else if 0 < n then 1 else 0

theorem compare_f (a b : Int) : cmp_Compare_int.f a b = some (if a < b then -1 else if b < a then 1 else 0) := by
  simp only [cmp_Compare_int.f, cmp_isNaN_int.f, Option.bind_some, bne_self_eq_false]
  simp only [Bool.false_eq_true, if_false]
  split
  · rfl
  · split <;> rfl

theorem turn_f (ox oy ax ay bx by_ : Int) : plane_Turn.f ox oy ax ay bx by_ = some (sgn (crossB ox oy ax ay bx by_)) := by
  simp only [plane_Turn.f, cross_f, Option.bind_some, compare_f]
  rfl

theorem turn_any (ox oy ax ay bx by_ : Int) (w : World) : Calls Try.prog 23 #[ptV ox oy, ptV ax ay, ptV bx by_] w fun e w' => e = .returned (.int .i64 (sgn (crossB ox oy ax ay bx by_))) ∧ Below w.heap.size w w' :=
  plane_Turn.calls ox oy ax ay bx by_ _ w (turn_f ox oy ax ay bx by_)

def holdsB (lx ly hx hy px py : Int) : Bool := decide (lx ≤ px ∧ px ≤ hx ∧ ly ≤ py ∧ py ≤ hy)

theorem holds_f (lx ly hx hy px py : Int) : plane_Holds.f lx ly hx hy px py = some (holdsB lx ly hx hy px py) := by
  unfold plane_Holds.f holdsB
  by_cases h1 : px ≥ lx <;> by_cases h2 : px ≤ hx <;> by_cases h3 : py ≥ ly <;> by_cases h4 : py ≤ hy <;> simp [h1, h2, h3, h4] <;> omega

def onB (px py ax ay bx by_ : Int) : Bool :=
  rightB px py && (rightB ax ay && (rightB bx by_ && (decide (sgn (crossB ax ay bx by_ px py) = 0) && holdsB (mn ax bx) (mn ay by_) (mx ax bx) (mx ay by_) px py)))

theorem on_f (px py ax ay bx by_ : Int) : plane_On.f px py ax ay bx by_ = some (onB px py ax ay bx by_) := by
  simp only [plane_On.f, right_f, turn_f, plane_Around.f, holds_f, Option.bind_some, onB]
  by_cases h : sgn (crossB ax ay bx by_ px py) = 0 <;> cases rightB px py <;> cases rightB ax ay <;> cases rightB bx by_ <;> simp [h]

theorem on_any (px py ax ay bx by_ : Int) (w : World) : Calls Try.prog 26 #[ptV px py, ptV ax ay, ptV bx by_] w fun e w' => e = .returned (.bool (onB px py ax ay bx by_)) ∧ Below w.heap.size w w' :=
  plane_On.calls px py ax ay bx by_ _ w (on_f px py ax ay bx by_)

def samePt (l m : List S23) (j : Nat) : Bool := (l.getD j z23).f0 == (m.getD j z23).f0 && (l.getD j z23).f1 == (m.getD j z23).f1

def eqPts (l m : List S23) : Bool := decide (l.length = m.length ∧ ∀ j, j < l.length → samePt l m j = true)

/-- The cells of a row of points. -/
def flat (l : List S23) : List Value := l.flatMap fun p => [.int .i64 p.f0, .int .i64 p.f1]

theorem flat_get (l : List S23) : ∀ (j : Nat) (p : S23), l[j]? = some p → (flat l)[j * 2]? = some (.int .i64 p.f0) ∧ (flat l)[j * 2 + 1]? = some (.int .i64 p.f1) := by
  induction l with
  | nil => intro j p h; simp at h
  | cons q l ih =>
    intro j p h
    cases j with
    | zero =>
      simp at h
      subst h
      exact ⟨rfl, rfl⟩
    | succ j =>
      have h2 := ih j p (by simpa using h)
      have e : (j + 1) * 2 = j * 2 + 1 + 1 := by omega
      rw [e]
      exact h2

theorem addr_add (b n : Nat) : (⟨b, 0, none⟩ : Addr).add n = ⟨b, n, none⟩ := by
  unfold Addr.add
  split
  · rename_i h; rw [h]
  · simp

/-- A block that holds points, as a row of points. -/
theorem C_block {w : World} {b : Nat} {cs : Array Value} (l : List S23) (h : w.heap[b]? = some (.cells cs 23 (0, 0))) (hcs : cs.toList = flat l) (hn : l.length ≤ 9223372036854775807) : Kd.C k23 w (some ⟨b, 0, none⟩) l.length l := by
  refine ⟨rfl, hn, fun _ => ⟨_, rfl, fun j p hj => ⟨[.int .i64 p.f0, .int .i64 p.f1], rfl, k23_mk w p, fun i u hu => ?_⟩⟩⟩
  obtain ⟨h0, h1⟩ := flat_get l j p hj
  rw [addr_add]
  show w.cell? ⟨b, j * 2 + i, none⟩ = some u
  rw [blk_cell h, ← Array.getElem?_toList, hcs]
  match i, hu with
  | 0, hu => simp at hu; subst hu; exact h0
  | 1, hu => simp at hu; subst hu; exact h1
  | i + 2, hu => simp at hu

theorem cell0 {W : World} {b t : Nat} {cs : Array Value} {v : Value} (j : Nat) (h : W.heap[b]? = some (.cells cs t (0, 0))) (e : cs[j]? = some v) : W.cell? ⟨b, j, none⟩ = some v := (blk_cell h j).trans e

attribute [local go_sem high] eqA23

end Go.Proofs.Ytpfgjagpaddcpaa.Own

/-! A ring's edges, as a list: begun elsewhere they are the same, the other way round they are turned; sums over them. No program here. -/
namespace Go.Proofs.Ytpfgjagpaddcpaa.Own
open Go.Proofs.Ytpfgjagpaddcpaa.X
set_option linter.unusedVariables false
set_option linter.unusedSimpArgs false

/-- The steps of a path from a on. -/
def pth : S23 → List S23 → List (S23 × S23)
  | _, [] => []
  | a, b :: r => (a, b) :: pth b r

/-- A ring's edges, from its first point on, the last one to the first. -/
def edgs : List S23 → List (S23 × S23)
  | [] => []
  | a :: r => pth a (r ++ [a])

theorem pth_length (xs : List S23) : ∀ a : S23, (pth a xs).length = xs.length := by
  induction xs with
  | nil => intro a; rfl
  | cons c xs ih => intro a; simp [pth, ih c]

theorem edgs_length (l : List S23) : (edgs l).length = l.length := by
  cases l with
  | nil => rfl
  | cons a r => simp [edgs, pth_length]

theorem pth_get (xs : List S23) : ∀ (a : S23) (k : Nat), k < xs.length → (pth a xs)[k]? = some ((a :: xs).getD k z23, xs.getD k z23) := by
  induction xs with
  | nil => intro a k h; simp at h
  | cons c xs ih =>
    intro a k h
    cases k with
    | zero => simp [pth]
    | succ k =>
      have := ih c k (by simpa using h)
      simp only [pth, List.getElem?_cons_succ, List.getD_cons_succ]
      rw [this]

theorem edgs_get (l : List S23) (k : Nat) (h : k < l.length) : (edgs l)[k]? = some (l.getD k z23, l.getD ((k + 1) % l.length) z23) := by
  cases l with
  | nil => simp at h
  | cons a r =>
    show (pth a (r ++ [a]))[k]? = _
    rw [pth_get _ _ _ (by simpa using h)]
    have hk : k ≤ r.length := by simpa [Nat.lt_succ_iff] using h
    have e1 : (a :: (r ++ [a])).getD k z23 = (a :: r).getD k z23 := by
      rw [List.getD_eq_getElem?_getD, List.getD_eq_getElem?_getD]
      congr 1
      rw [← List.cons_append, List.getElem?_append_left h]
    have e2 : (r ++ [a]).getD k z23 = (a :: r).getD ((k + 1) % (a :: r).length) z23 := by
      rw [List.getD_eq_getElem?_getD, List.getD_eq_getElem?_getD]
      congr 1
      by_cases hk2 : k < r.length
      · rw [List.getElem?_append_left hk2, Nat.mod_eq_of_lt (by simp; omega)]
        simp
      · have : k = r.length := by omega
        subst this
        rw [List.getElem?_append_right (Nat.le_refl _)]
        have : (r.length + 1) % (a :: r).length = 0 := by simp
        rw [this]
        simp
    rw [e1, e2]

end Go.Proofs.Ytpfgjagpaddcpaa.Own

/-! A ring's edges, gone through by an iterator: sides and its closure. -/
namespace Go.Proofs.Ytpfgjagpaddcpaa.Own
open Go.RowKit Go.Shelf Go.Proofs.YtpfgjagpaddcpaaW.PrintWords Go.Proofs.YtpfgjagpaddcpaaW.PrintLast Go.Proofs.YtpfgjagpaddcpaaW.PrintMore
open Go.Proofs.Ytpfgjagpaddcpaa.X
set_option linter.unusedVariables false
set_option linter.unusedSimpArgs false
attribute [local go_sem] Oper.semAt_some

/-- What a round of a loop over a ring's edges must keep: what lay below n₀, and the ring's own box. -/
def KpR (n₀ Bs : Nat) (W W' : World) : Prop := Below n₀ W W' ∧ W'.heap[Bs]? = W.heap[Bs]?
theorem KpR_t {n₀ Bs : Nat} {A B C : World} (h : KpR n₀ Bs A B) (k : KpR n₀ Bs B C) : KpR n₀ Bs A C := ⟨h.1.trans k.1, k.2.trans h.2⟩
theorem KpR_b {n₀ Bs : Nat} {w : World} (hn : n₀ ≤ w.heap.size) (hB : Bs < w.heap.size) (W : World) (l : Nat) (o o' : Obj) (hl : w.heap.size ≤ l) (h : W.heap[l]? = some o) (h1 : o.isCells = false) (h2 : o.isWalk = false) : KpR n₀ Bs W (W.putObj l o') :=
  ⟨belowK_b hn W l o o' hl h h1 h2, (grownBy_putObj' W l o').block Bs (by have := (Array.getElem?_eq_some_iff.1 h).1; omega) (by intro e; cases e; omega)⟩

/-- An edge as yield takes it. -/
abbrev edgV (e : S23 × S23) : Array Value := #[ptV e.1.f0 e.1.f1, ptV e.2.f0 e.2.f1]

set_option maxRecDepth 100000 in
theorem sides1_in (n : Nat) (hn : 1 ≤ n) (lp Bs n₀ : Nat) (w0 : World) (A : Option Addr) (c : Nat) (l : List S23) (hC : Kd.C k23 w0 A l.length l) (hc : l.length ≤ c) (hm : l.length ≤ 9223372036854775807) (hn₀ : n₀ = w0.heap.size)
    (J Jx : List (S23 × S23) → World → Prop)
    (hJ : ∀ pre W, J pre W → J pre W.drew) (hJa : ∀ pre W o, J pre W → J pre (W.alloc o)) 
    (hY : ∀ pre x W, J pre W → pre.length < l.length → YieldAt Fence.wide (n - 1) Try.prog lp (edgV x) W fun e W' =>
      (e = .returned (.bool true) ∧ J (pre ++ [x]) W' ∧ KpR n₀ Bs W W') ∨ (e = .returned (.bool false) ∧ Jx (pre ++ [x]) W'))
    (W : World) (hW : Below n₀ w0 W) (hBs : Boxed W Bs 47 (.slice A l.length c)) (h0 : J [] W) :
    CallsIn Fence.wide n Try.prog 71 #[.func (.yield lp) #[] #[], .pointer (some ⟨Bs, 0, none⟩)] W fun e W' => (∃ v, e = .returned v) ∧
      ((∃ ys, ys = edgs l ∧ J ys W') ∨ (∃ pre, True ∧ Jx pre W')) := by
  have hmx : Try.prog.follows .mixedOrders = true := by kernel_rfl
  have hu23 := Try.underlying23
  have HC := Aside0.mk hC
  have HW := Aside0.mk hW
  have HBs := Aside0.mk hBs
  have cB := hBs.cell
  clear hC hW hBs
  refine callsIn_of_wp Try.func71 rfl trivial ?_ rfl
  simp only [Try.ntmps71, List.size_toArray, List.length_cons, List.length_nil, Nat.reduceAdd, Nat.reduceSub, Array.replicate_succ, Array.replicate_zero, List.push_toArray, List.append_toArray, List.nil_append, List.cons_append]
  gi_wp2
  gi_loopw [7] (fun i wr => ∃ x : Int, i = .int .i64 x ∧ Aside0 (0 ≤ x ∧ x ≤ l.length) ∧ Aside0 (J ((edgs l).take x.toNat) wr) ∧ Aside0 (Below n₀ w0 wr) ∧ Aside0 (Boxed wr Bs 47 (.slice A l.length c)))
    (fun i _ => l.length - (intOf i).toNat)
  case atStart => exact ⟨0, rfl, ⟨by omega, by omega⟩, ⟨h0⟩, HW, HBs⟩
  case round =>
    obtain ⟨x, rfl, Hk, HJ, HWr, HBr⟩ := hrel
    obtain ⟨hx, hxl⟩ := Hk.out
    clear cB HW HBs h0 Hk
    have cB := HBr.out.cell
    by_cases hlt : x < (l.length : Int)
    · obtain ⟨ad, e1, hx0, hx1⟩ := at_T23 (Kd.C_below HC.out (hn₀ ▸ HWr.out)) x hx hlt
      cases e1
      have d0 : decide (x < (l.length : Int)) = true := decide_eq_true hlt
      have hw1 : IntKind.i64.wrap (x + 1) = x + 1 := IntWalk.i64_in _ (by omega)
      obtain ⟨y, hw2⟩ : ∃ y : Int, (x + 1).tmod (l.length : Int) = y := ⟨_, rfl⟩
      have hye : y = (x + 1) % (l.length : Int) := by rw [← hw2, Int.tmod_eq_emod_of_nonneg (by omega)]
      have hy0 : 0 ≤ y := by rw [hye]; exact Int.emod_nonneg _ (by omega)
      have hy1 : y < (l.length : Int) := by rw [hye]; exact Int.emod_lt_of_pos _ (by omega)
      have HYE := Aside0.mk hye
      clear hye
      have hw3 : IntKind.i64.wrap y = y := IntWalk.i64_in _ (by omega)
      obtain ⟨ad', e1, hz0, hz1⟩ := at_T23 (Kd.C_below HC.out (hn₀ ▸ HWr.out)) y hy0 hy1
      cases e1
      have q0 : 0 < (l.length : Int) := by omega
      have q1 : ¬ (l.length : Int) = 0 := by omega
      have q3 : ¬ l = [] := by rintro rfl; simp at q0
      gi_wp2
      obtain ⟨W2, hW2⟩ : ∃ W2, wr.alloc (.cells #[.int .i64 (rd_T23 l x).f0, .int .i64 (rd_T23 l x).f1] 23) = W2 := ⟨_, rfl⟩
      have kb := blk_new wr (.cells #[.int .i64 (rd_T23 l x).f0, .int .i64 (rd_T23 l x).f1] 23)
      have hb2 : Below wr.heap.size wr W2 := by rw [← hW2]; exact (Below.refl _ wr).alloc (Nat.le_refl _) _
      rw [hW2] at kb ⊢
      have v0 := cell0 0 kb rfl; have v1 := cell0 1 kb rfl
      replace hz0 := cell_on hb2 hz0; replace hz1 := cell_on hb2 hz1
      have cB2 := cell_on hb2 cB
      have HJ2 := Aside0.mk (show J ((edgs l).take x.toNat) W2 by rw [← hW2]; exact hJa _ _ _ HJ.out)
      have HWr2 := Aside0.mk (show Below n₀ w0 W2 from HWr.out.trans (hb2.mono (hn₀ ▸ HWr.out.size)))
      have HBr2 := Aside0.mk (show Boxed W2 Bs 47 (.slice (some ad) l.length c) from (hb2.block _ HBr.out.lt).trans HBr.out)
      clear kb hb2 hW2 cB hx0 hx1 HJ HWr HBr
      refine wpIn_region_still_tail 10 hmx (by kernel_rfl) (fun _ => trivial) rfl (fun _ _ _ h => callsIn_wide.2 h) (fun _ _ _ _ => rfl) ?_
      simp only [List.take_succ_cons, List.take_zero, List.drop_succ_cons, List.drop_zero]
      repeat still_step
      try refine wpStill_nil ?_
      change wpListIn _ _ _ _ _ _ _ W2.drew
      have hlt2 : x.toNat < l.length := by omega
      have hpl : ((edgs l).take x.toNat).length < l.length := by rw [List.length_take, edgs_length]; omega
      have HE := Aside0.mk (show (edgs l).take x.toNat ++ [(rd_T23 l x, rd_T23 l y)] = (edgs l).take (x + 1).toNat by
        rw [show (x + 1).toNat = x.toNat + 1 by omega, List.take_add_one, edgs_get l x.toNat hlt2]
        have : y.toNat = (x.toNat + 1) % l.length := by
          have h := HYE.out
          have h2 : ((y.toNat : Nat) : Int) = (((x.toNat + 1) % l.length : Nat) : Int) := by
            rw [Int.natCast_emod]
            push_cast
            rw [Int.toNat_of_nonneg hy0, Int.toNat_of_nonneg hx, h]
          exact_mod_cast h2
        simp only [rd_T23, this, Option.toList_some])
      obtain ⟨fn, tmps, assign, body, hy, hR⟩ := hY _ (rd_T23 l x, rd_T23 l y) W2.drew (hJ _ _ HJ2.out) hpl
      clear hpl
      dsimp only [edgV, ptV] at hy
      gi_wp2
      refine hR.mono ?_
      clear hR hy
      rintro e W3 (⟨rfl, hJ3, hk3⟩ | ⟨rfl, hJx3⟩)
      · rw [HE.out] at hJ3
        have HJ3 := Aside0.mk hJ3
        have HW3 := Aside0.mk ((below_drew1 HWr2.out).trans hk3.1)
        have HB3 := Aside0.mk (show Boxed W3 Bs 47 (.slice (some ad) l.length c) from hk3.2.trans (show W2.drew.heap[Bs]? = _ from HBr2.out))
        clear hJ3 hk3 v0 v1 hz0 hz1 cB2 HJ2 HWr2 HBr2
        gi_wp2
        go_roundw
        case rel => exact ⟨x + 1, by go_num, ⟨by omega, by omega⟩, HJ3, HW3, HB3⟩
        case measure => simp [intOf]; omega
      · have HJx := Aside0.mk hJx3
        clear hJx3
        gi_wp2
        refine bodyPost_ret (results_none rfl _ _ _) rfl ?_
        exact ⟨⟨_, rfl⟩, .inr ⟨_, trivial, HJx.out⟩⟩
    · obtain rfl : x = l.length := by omega
      gi_wp2
      go_end0
      exact ⟨⟨_, rfl⟩, .inl (by have := HJ.out; rwa [show (l.length : Int).toNat = (edgs l).length by simp [edgs_length], List.take_length] at this)⟩

set_option maxRecDepth 100000 in
theorem sides_in (n : Nat) (A : Option Addr) (len c : Nat) (w : World) :
    CallsIn Fence.wide n Try.prog 56 #[.slice A len c] w fun e w' => e = .returned (.func (.func 71) #[] #[.pointer (some ⟨w.heap.size, 0, none⟩)]) ∧ w' = w.alloc (.cells #[.slice A len c] 47) := by
  refine callsIn_of_wp Try.func56 rfl trivial ?_ rfl
  simp only [Try.ntmps56, List.size_toArray, List.length_cons, List.length_nil, Nat.reduceAdd, Nat.reduceSub, Array.replicate_succ, Array.replicate_zero, List.push_toArray, List.append_toArray, List.nil_append, List.cons_append]
  gi_wp2
  go_ret
  exact ⟨rfl, rfl⟩

/-- **sides: the iterator's contract**: a ring's edges, in their order; each round keeps what lay ahead of the ring's own box, and that box. -/
theorem sides_stops (n : Nat) (hn : 1 ≤ n) (Bs n₀ : Nat) (w0 w : World) (A : Option Addr) (c : Nat) (l : List S23) (hC : Kd.C k23 w0 A l.length l) (hc : l.length ≤ c) (hm : l.length ≤ 9223372036854775807) (hn₀ : n₀ = w0.heap.size) (hw : Below n₀ w0 w)
    (hBs : Boxed w Bs 47 (.slice A l.length c)) :
    SeqStopsK Fence.wide n Try.prog 71 #[.pointer (some ⟨Bs, 0, none⟩)] edgV (KpR n₀ Bs) (fun ys => ys = edgs l) (fun _ => True) l.length w := fun lp J Jx W hW hJ hJx hY h0 => by
  refine sides1_in n hn lp Bs n₀ w0 A c l hC hc hm hn₀ J Jx ?_ ?_ hY W (hw.trans (hW.mono (hn₀ ▸ hw.size))) ((hW.block _ hBs.lt).trans hBs) h0
  · exact fun pre W hp => hJ pre W W.drew none hp ⟨rfl, rfl, rfl, Nat.le_refl _, fun _ _ _ => rfl⟩ (fun r e => by cases e)
  · exact fun pre W o hp => hJ pre W _ none hp (World.grownBy_alloc W o none) (fun r e => by cases e)
end Go.Proofs.Ytpfgjagpaddcpaa.Own

/-! Marks of many loops; facts of cells that are a loop's own. -/
namespace Go.Proofs.Ytpfgjagpaddcpaa.Own
open Go.RowKit Go.Shelf Go.Proofs.YtpfgjagpaddcpaaW.PrintWords Go.Proofs.YtpfgjagpaddcpaaW.PrintLast Go.Proofs.YtpfgjagpaddcpaaW.PrintMore
open Go.Proofs.Ytpfgjagpaddcpaa.X
set_option linter.unusedVariables false
set_option linter.unusedSimpArgs false

theorem keeps_below {W W' : World} (h : Below W.heap.size W W') : KeepsOthers W W' :=
  ⟨h.size, fun k o hk _ => (h.block k (Array.getElem?_eq_some_iff.1 hk).1).trans hk⟩

/-- A fact of a block of cells is one's own. -/
theorem cells_own {β : Type} (B : Nat) (f : β → Array Value) (t : TypeId) : Own (fun s W => W.heap[B]? = some (.cells (f s) t (0, 0))) := fun s X Y row hs hg hrow =>
  (hg.block B (Array.getElem?_eq_some_iff.1 hs).1 (fun e' => by obtain ⟨o, ho, hc⟩ := hrow B e'.symm; rw [hs] at ho; cases ho; cases hc)).trans hs

/-- The marks of the loops that are over. -/
def Mk (w : World) (ds : List Deferred) (W : World) : Prop := ∃ Ds : List Nat, Ds.Nodup ∧ ds.map Deferred.target = Ds.map Target.collected ∧ ∀ D ∈ Ds, w.heap.size ≤ D ∧ W.heap[D]? = some (.deferred (some []))

theorem leaves_marks {F : Fence} {n : Nat} {P : Program} {fn : Func} {tmps : Array Value} {R : Ending → World → Prop} {u : FrameMode} (hu : u ≠ .run) (S : World → Prop) (B : Nat)
    (hS : ∀ W D, S W → B ≤ D → W.heap[D]? = some (.deferred (some [])) → S (W.putObj D (.deferred none))) (hend : ∀ W, S W → LeavesIn F n P fn tmps R [] u W) :
    ∀ (Ds : List Nat) (ds : List Deferred) (W : World), ds.map Deferred.target = Ds.map Target.collected → Ds.Nodup → (∀ D ∈ Ds, B ≤ D ∧ W.heap[D]? = some (.deferred (some []))) → S W → LeavesInM F n P fn tmps R ds u W
  | [], [], W, _, _, _, hs => hend W hs
  | [], _ :: _, _, h, _, _, _ => by cases h
  | _ :: _, [], _, h, _, _, _ => by cases h
  | D :: Ds, d :: ds, W, h, hn, hD, hs => by
    simp only [List.map_cons, List.cons.injEq] at h
    obtain ⟨hB, hK⟩ := hD D (List.mem_cons_self ..)
    refine ⟨hu, .inl ⟨D, _, h.1, run_takeDeferred hK, ?_⟩⟩
    refine leaves_marks hu S B hS hend Ds ds _ h.2 (List.nodup_cons.1 hn).2 (fun D' hD' => ⟨(hD D' (List.mem_cons_of_mem _ hD')).1, ?_⟩) (hS _ _ hs hB hK)
    have hne : D' ≠ D := fun e => (List.nodup_cons.1 hn).1 (e ▸ hD')
    have h2 := (hD D' (List.mem_cons_of_mem _ hD')).2
    exact ((grownBy_putObj' W D (.deferred none)).block D' (Array.getElem?_eq_some_iff.1 h2).1 (fun e => hne (by cases e; rfl))).trans h2

end Go.Proofs.Ytpfgjagpaddcpaa.Own

-- Printed by the kit's print.py for this seat (all laws in one set), called by this session.
namespace Go.Proofs.Ytpfgjagpaddcpaa.X
open Go.RowKit Go.Proofs.YtpfgjagpaddcpaaW.PrintWords Go.Proofs.YtpfgjagpaddcpaaW.PrintLast Go.Proofs.YtpfgjagpaddcpaaW.PrintMore
attribute [local go_sem] max2_int min2_int max_two min_two max_three min_three max_four min_four
set_option linter.unusedVariables false
set_option linter.unusedSimpArgs false

/-! ### input_Does: function 33 -/
def input_Does.f (a0 : Int) (a1 : Bool) (a2 : Bool) : Option (Bool) := if a0 = 0 then (if a1 = true then (some true) else (some a2)) else (if a0 = 1 then (if a1 = true then (some a2) else (some false)) else (if a0 = 2 then (if a1 = true then (some (!a2)) else (some false)) else (if a0 = 3 then (some (a1 != a2)) else (some false))))
set_option maxHeartbeats 8000000 in
set_option maxRecDepth 100000 in
theorem input_Does.calls (a0 : Int) (a1 : Bool) (a2 : Bool) (r : Bool) (w : World) (h : input_Does.f a0 a1 a2 = some r) :
    Calls Try.prog 33 #[.int .i64 a0, .bool a1, .bool a2] w fun e w' => e = .returned (.bool r) ∧ Drawn0 w w' := by
  have H : (if a0 = 0 then (if a1 = true then (some true) else (some a2)) else (if a0 = 1 then (if a1 = true then (some a2) else (some false)) else (if a0 = 2 then (if a1 = true then (some (!a2)) else (some false)) else (if a0 = 3 then (some (a1 != a2)) else (some false))))) = some r := h
  clear h
  by_cases c4 : a0 = 0
  · rw [if_pos c4] at H
    have c4b0 : (a0 == 0) = true := beq_iff_eq.mpr c4
    have c4b1 : (a0 != 0) = false := bne_eq_false_iff_eq.mpr c4
    clear c4
    by_cases c5 : a1 = true
    · subst c5
      have H1 : (some true) = some r := by rw [if_pos rfl] at H; exact H
      clear H
      have H := H1
      clear H1
      obtain rfl := Option.some.inj H
      go_enter Try.func33, Try.ntmps33
      go_wp2
      go_ret
      exact ⟨by first | rfl | (simp; done) | (simp [*]; done), by repeat (first | exact Drawn0.refl _ | apply Drawn0.step)⟩
    · replace c5 := Bool.eq_false_iff.mpr c5
      subst c5
      have H1 : (some a2) = some r := by rw [if_neg (show ¬ (false = true) by decide)] at H; exact H
      clear H
      have H := H1
      clear H1
      obtain rfl := Option.some.inj H
      go_enter Try.func33, Try.ntmps33
      go_wp2
      go_ret
      exact ⟨by first | rfl | (simp; done) | (simp [*]; done), by repeat (first | exact Drawn0.refl _ | apply Drawn0.step)⟩
  · rw [if_neg c4] at H
    have c4b0 : (a0 == 0) = false := beq_eq_false_iff_ne.mpr c4
    have c4b1 : (a0 != 0) = true := bne_iff_ne.mpr c4
    by_cases c6 : a0 = 1
    · rw [if_pos c6] at H
      have c6b0 : (a0 == 1) = true := beq_iff_eq.mpr c6
      have c6b1 : (a0 != 1) = false := bne_eq_false_iff_eq.mpr c6
      clear c6
      by_cases c7 : a1 = true
      · subst c7
        have H1 : (some a2) = some r := by rw [if_pos rfl] at H; exact H
        clear H
        have H := H1
        clear H1
        obtain rfl := Option.some.inj H
        go_enter Try.func33, Try.ntmps33
        go_wp2
        go_ret
        exact ⟨by first | rfl | (simp; done) | (simp [*]; done), by repeat (first | exact Drawn0.refl _ | apply Drawn0.step)⟩
      · replace c7 := Bool.eq_false_iff.mpr c7
        subst c7
        have H1 : (some false) = some r := by rw [if_neg (show ¬ (false = true) by decide)] at H; exact H
        clear H
        have H := H1
        clear H1
        obtain rfl := Option.some.inj H
        go_enter Try.func33, Try.ntmps33
        go_wp2
        go_ret
        exact ⟨by first | rfl | (simp; done) | (simp [*]; done), by repeat (first | exact Drawn0.refl _ | apply Drawn0.step)⟩
    · rw [if_neg c6] at H
      have c6b0 : (a0 == 1) = false := beq_eq_false_iff_ne.mpr c6
      have c6b1 : (a0 != 1) = true := bne_iff_ne.mpr c6
      by_cases c8 : a0 = 2
      · rw [if_pos c8] at H
        have c8b0 : (a0 == 2) = true := beq_iff_eq.mpr c8
        have c8b1 : (a0 != 2) = false := bne_eq_false_iff_eq.mpr c8
        clear c8
        by_cases c9 : a1 = true
        · subst c9
          have H1 : (some (!a2)) = some r := by rw [if_pos rfl] at H; exact H
          clear H
          have H := H1
          clear H1
          obtain rfl := Option.some.inj H
          go_enter Try.func33, Try.ntmps33
          go_wp2
          go_ret
          exact ⟨by first | rfl | (simp; done) | (simp [*]; done), by repeat (first | exact Drawn0.refl _ | apply Drawn0.step)⟩
        · replace c9 := Bool.eq_false_iff.mpr c9
          subst c9
          have H1 : (some false) = some r := by rw [if_neg (show ¬ (false = true) by decide)] at H; exact H
          clear H
          have H := H1
          clear H1
          obtain rfl := Option.some.inj H
          go_enter Try.func33, Try.ntmps33
          go_wp2
          go_ret
          exact ⟨by first | rfl | (simp; done) | (simp [*]; done), by repeat (first | exact Drawn0.refl _ | apply Drawn0.step)⟩
      · rw [if_neg c8] at H
        have c8b0 : (a0 == 2) = false := beq_eq_false_iff_ne.mpr c8
        have c8b1 : (a0 != 2) = true := bne_iff_ne.mpr c8
        by_cases c10 : a0 = 3
        · rw [if_pos c10] at H
          have c10b0 : (a0 == 3) = true := beq_iff_eq.mpr c10
          have c10b1 : (a0 != 3) = false := bne_eq_false_iff_eq.mpr c10
          clear c10
          obtain rfl := Option.some.inj H
          go_enter Try.func33, Try.ntmps33
          go_wp2
          go_ret
          exact ⟨by first | rfl | (simp; done) | (simp [*]; done), by repeat (first | exact Drawn0.refl _ | apply Drawn0.step)⟩
        · rw [if_neg c10] at H
          have c10b0 : (a0 == 3) = false := beq_eq_false_iff_ne.mpr c10
          have c10b1 : (a0 != 3) = true := bne_iff_ne.mpr c10
          obtain rfl := Option.some.inj H
          go_enter Try.func33, Try.ntmps33
          go_wp2
          go_ret
          exact ⟨by first | rfl | (simp; done) | (simp [*]; done), by repeat (first | exact Drawn0.refl _ | apply Drawn0.step)⟩

/-! ### input_Wants: function 35 -/
def input_Wants.f (l0_0 : List (List (S23))) (l0_1 : List (List (S23))) (a0_2 : Int) (a0_3 : Int) (a0_4 : Int) (a0_5 : Int) (a1 : Int) (a2 : Int) : Option (Bool) := (input_Fills.f a0_3 a1).bind fun t199 => ((input_Fills.f a0_3 a2).bind fun t200 => ((input_Does.f a0_2 t199 t200).bind fun t201 => (some t201)))
set_option maxHeartbeats 8000000 in
set_option maxRecDepth 100000 in
theorem input_Wants.calls (A0_0 : Option Addr) (c0_0 : Nat) (l0_0 : List (List (S23))) (A0_1 : Option Addr) (c0_1 : Nat) (l0_1 : List (List (S23))) (a0_2 : Int) (a0_3 : Int) (a0_4 : Int) (a0_5 : Int) (a1 : Int) (a2 : Int) (r : Bool) (w : World) (hr0_0 : Kd.C (Kd.slice 23 k23) w A0_0 l0_0.length l0_0) (hc0_0 : l0_0.length ≤ c0_0) (hr0_1 : Kd.C (Kd.slice 23 k23) w A0_1 l0_1.length l0_1) (hc0_1 : l0_1.length ≤ c0_1) (h : input_Wants.f l0_0 l0_1 a0_2 a0_3 a0_4 a0_5 a1 a2 = some r) :
    Calls Try.prog 35 #[.agg #[.slice A0_0 l0_0.length c0_0, .slice A0_1 l0_1.length c0_1, .int .i64 a0_2, .int .i64 a0_3, .int .i64 a0_4, .int .i64 a0_5], .int .i64 a1, .int .i64 a2] w fun e w' => e = .returned (.bool r) ∧ Below w.heap.size w w' := by
  have hu41 := Try.underlying41
  have HR0_0 := Aside0.mk hr0_0
  have HC0_0 := Aside0.mk hc0_0
  clear hr0_0 hc0_0
  have HR0_1 := Aside0.mk hr0_1
  have HC0_1 := Aside0.mk hc0_1
  clear hr0_1 hc0_1
  have HB := Aside0.mk (Below.refl w.heap.size w)
  have H : ((input_Fills.f a0_3 a1).bind fun t199 => ((input_Fills.f a0_3 a2).bind fun t200 => ((input_Does.f a0_2 t199 t200).bind fun t201 => (some t201)))) = some r := h
  clear h
  replace H := Option.bind_eq_some_iff.mp H
  obtain ⟨t199, A40, H⟩ := H
  replace H : ((input_Fills.f a0_3 a2).bind fun t200 => ((input_Does.f a0_2 t199 t200).bind fun t201 => (some t201))) = some r := H
  have A4 := Aside0.mk A40
  clear A40
  replace H := Option.bind_eq_some_iff.mp H
  obtain ⟨t200, A50, H⟩ := H
  replace H : ((input_Does.f a0_2 t199 t200).bind fun t201 => (some t201)) = some r := H
  have A5 := Aside0.mk A50
  clear A50
  replace H := Option.bind_eq_some_iff.mp H
  obtain ⟨t201, A60, H⟩ := H
  replace H : (some t201) = some r := H
  have A6 := Aside0.mk A60
  clear A60
  obtain rfl := Option.some.inj H
  go_enter Try.func35, Try.ntmps35
  go_wp2_with (first | ((with_reducible refine gate_dst (N := 3) rfl ?_); refine box_event ?hg (N := 3) ?hd (cs := #[.slice A0_0 l0_0.length c0_0, .slice A0_1 l0_1.length c0_1, .int .i64 a0_2, .int .i64 a0_3, .int .i64 a0_4, .int .i64 a0_5]) (t := 41) ?hr ?_; (case hd => rfl); (case hg => rfl); (case hr => first | (go_simp; done) | (go_simp; rfl)); intro gb198 hg w7 hbox hb; have n0_ := Aside0.mk (below_step (by repeat (first | (with_reducible first | exact HB.out | apply below_alloc | apply pw_below_drewN | apply below_drew1) | exact HB.out)) hb); have n1_ := Aside0.mk (hbox); have n2_ := Aside0.mk ((by rw [hg]; exact (below_size (by repeat (first | (with_reducible first | exact HB.out | apply below_alloc | apply pw_below_drewN | apply below_drew1) | exact HB.out))) : w.heap.size ≤ gb198)); have n3_ := Aside0.mk ((by rw [hg]; exact (below_size (by repeat (first | (with_reducible first | exact HB.out | apply below_alloc | apply pw_below_drewN | apply below_drew1) | exact HB.out))) : w.heap.size ≤ gb198)); clear HB; have HB := n0_; have BK198 := n1_; have GW198 := n2_; have GE198 := n3_; clear n0_ n1_ n2_ n3_; clear hb hbox hg; have hcz8_0 : w7.cell? ⟨gb198, 0, none⟩ = some (.slice A0_0 l0_0.length c0_0) := (blk_cell BK198.out 0).trans rfl; have hcz8_1 : w7.cell? ⟨gb198, 1, none⟩ = some (.slice A0_1 l0_1.length c0_1) := (blk_cell BK198.out 1).trans rfl; have hcz8_2 : w7.cell? ⟨gb198, 2, none⟩ = some (.int .i64 a0_2) := (blk_cell BK198.out 2).trans rfl; have hcz8_3 : w7.cell? ⟨gb198, 3, none⟩ = some (.int .i64 a0_3) := (blk_cell BK198.out 3).trans rfl; have hcz8_4 : w7.cell? ⟨gb198, 4, none⟩ = some (.int .i64 a0_4) := (blk_cell BK198.out 4).trans rfl; have hcz8_5 : w7.cell? ⟨gb198, 5, none⟩ = some (.int .i64 a0_5) := (blk_cell BK198.out 5).trans rfl; have hfz8_0 := blk_frozen BK198.out 0; have hfz8_1 := blk_frozen BK198.out 1; have hfz8_2 := blk_frozen BK198.out 2; have hfz8_3 := blk_frozen BK198.out 3; have hfz8_4 := blk_frozen BK198.out 4; have hfz8_5 := blk_frozen BK198.out 5) | (go_at_call 32; (with_reducible refine (input_Fills.calls a0_3 a1 t199 _ A4.out).mono ?_); rintro e w' ⟨rfl, ⟨nd, rfl⟩⟩; (try first | exact ⟨rfl, _, World.drewN_drewN _ _ _⟩ | exact ⟨rfl, _, Eq.trans (World.drewN_drewN _ _ _) (congrArg (World.drewN _) (Nat.add_assoc _ _ _))⟩)) | (go_at_call 32; (with_reducible refine (input_Fills.calls a0_3 a2 t200 _ A5.out).mono ?_); rintro e w' ⟨rfl, ⟨nd, rfl⟩⟩; (try first | exact ⟨rfl, _, World.drewN_drewN _ _ _⟩ | exact ⟨rfl, _, Eq.trans (World.drewN_drewN _ _ _) (congrArg (World.drewN _) (Nat.add_assoc _ _ _))⟩)) | (go_at_call 33; (with_reducible refine (input_Does.calls a0_2 t199 t200 t201 _ A6.out).mono ?_); rintro e w' ⟨rfl, ⟨nd, rfl⟩⟩; (try first | exact ⟨rfl, _, World.drewN_drewN _ _ _⟩ | exact ⟨rfl, _, Eq.trans (World.drewN_drewN _ _ _) (congrArg (World.drewN _) (Nat.add_assoc _ _ _))⟩)))
  repeat (go_quiet (first | ((with_reducible refine gate_dst (N := 3) rfl ?_); refine box_event ?hg (N := 3) ?hd (cs := #[.slice A0_0 l0_0.length c0_0, .slice A0_1 l0_1.length c0_1, .int .i64 a0_2, .int .i64 a0_3, .int .i64 a0_4, .int .i64 a0_5]) (t := 41) ?hr ?_; (case hd => rfl); (case hg => rfl); (case hr => first | (go_simp; done) | (go_simp; rfl)); intro gb198 hg w7 hbox hb; have n0_ := Aside0.mk (below_step (by repeat (first | (with_reducible first | exact HB.out | apply below_alloc | apply pw_below_drewN | apply below_drew1) | exact HB.out)) hb); have n1_ := Aside0.mk (hbox); have n2_ := Aside0.mk ((by rw [hg]; exact (below_size (by repeat (first | (with_reducible first | exact HB.out | apply below_alloc | apply pw_below_drewN | apply below_drew1) | exact HB.out))) : w.heap.size ≤ gb198)); have n3_ := Aside0.mk ((by rw [hg]; exact (below_size (by repeat (first | (with_reducible first | exact HB.out | apply below_alloc | apply pw_below_drewN | apply below_drew1) | exact HB.out))) : w.heap.size ≤ gb198)); clear HB; have HB := n0_; have BK198 := n1_; have GW198 := n2_; have GE198 := n3_; clear n0_ n1_ n2_ n3_; clear hb hbox hg; have hcz8_0 : w7.cell? ⟨gb198, 0, none⟩ = some (.slice A0_0 l0_0.length c0_0) := (blk_cell BK198.out 0).trans rfl; have hcz8_1 : w7.cell? ⟨gb198, 1, none⟩ = some (.slice A0_1 l0_1.length c0_1) := (blk_cell BK198.out 1).trans rfl; have hcz8_2 : w7.cell? ⟨gb198, 2, none⟩ = some (.int .i64 a0_2) := (blk_cell BK198.out 2).trans rfl; have hcz8_3 : w7.cell? ⟨gb198, 3, none⟩ = some (.int .i64 a0_3) := (blk_cell BK198.out 3).trans rfl; have hcz8_4 : w7.cell? ⟨gb198, 4, none⟩ = some (.int .i64 a0_4) := (blk_cell BK198.out 4).trans rfl; have hcz8_5 : w7.cell? ⟨gb198, 5, none⟩ = some (.int .i64 a0_5) := (blk_cell BK198.out 5).trans rfl; have hfz8_0 := blk_frozen BK198.out 0; have hfz8_1 := blk_frozen BK198.out 1; have hfz8_2 := blk_frozen BK198.out 2; have hfz8_3 := blk_frozen BK198.out 3; have hfz8_4 := blk_frozen BK198.out 4; have hfz8_5 := blk_frozen BK198.out 5) | (go_at_call 32; (with_reducible refine (input_Fills.calls a0_3 a1 t199 _ A4.out).mono ?_); rintro e w' ⟨rfl, ⟨nd, rfl⟩⟩; (try first | exact ⟨rfl, _, World.drewN_drewN _ _ _⟩ | exact ⟨rfl, _, Eq.trans (World.drewN_drewN _ _ _) (congrArg (World.drewN _) (Nat.add_assoc _ _ _))⟩)) | (go_at_call 32; (with_reducible refine (input_Fills.calls a0_3 a2 t200 _ A5.out).mono ?_); rintro e w' ⟨rfl, ⟨nd, rfl⟩⟩; (try first | exact ⟨rfl, _, World.drewN_drewN _ _ _⟩ | exact ⟨rfl, _, Eq.trans (World.drewN_drewN _ _ _) (congrArg (World.drewN _) (Nat.add_assoc _ _ _))⟩)) | (go_at_call 33; (with_reducible refine (input_Does.calls a0_2 t199 t200 t201 _ A6.out).mono ?_); rintro e w' ⟨rfl, ⟨nd, rfl⟩⟩; (try first | exact ⟨rfl, _, World.drewN_drewN _ _ _⟩ | exact ⟨rfl, _, Eq.trans (World.drewN_drewN _ _ _) (congrArg (World.drewN _) (Nat.add_assoc _ _ _))⟩))); try go_wp2_with (first | ((with_reducible refine gate_dst (N := 3) rfl ?_); refine box_event ?hg (N := 3) ?hd (cs := #[.slice A0_0 l0_0.length c0_0, .slice A0_1 l0_1.length c0_1, .int .i64 a0_2, .int .i64 a0_3, .int .i64 a0_4, .int .i64 a0_5]) (t := 41) ?hr ?_; (case hd => rfl); (case hg => rfl); (case hr => first | (go_simp; done) | (go_simp; rfl)); intro gb198 hg w7 hbox hb; have n0_ := Aside0.mk (below_step (by repeat (first | (with_reducible first | exact HB.out | apply below_alloc | apply pw_below_drewN | apply below_drew1) | exact HB.out)) hb); have n1_ := Aside0.mk (hbox); have n2_ := Aside0.mk ((by rw [hg]; exact (below_size (by repeat (first | (with_reducible first | exact HB.out | apply below_alloc | apply pw_below_drewN | apply below_drew1) | exact HB.out))) : w.heap.size ≤ gb198)); have n3_ := Aside0.mk ((by rw [hg]; exact (below_size (by repeat (first | (with_reducible first | exact HB.out | apply below_alloc | apply pw_below_drewN | apply below_drew1) | exact HB.out))) : w.heap.size ≤ gb198)); clear HB; have HB := n0_; have BK198 := n1_; have GW198 := n2_; have GE198 := n3_; clear n0_ n1_ n2_ n3_; clear hb hbox hg; have hcz8_0 : w7.cell? ⟨gb198, 0, none⟩ = some (.slice A0_0 l0_0.length c0_0) := (blk_cell BK198.out 0).trans rfl; have hcz8_1 : w7.cell? ⟨gb198, 1, none⟩ = some (.slice A0_1 l0_1.length c0_1) := (blk_cell BK198.out 1).trans rfl; have hcz8_2 : w7.cell? ⟨gb198, 2, none⟩ = some (.int .i64 a0_2) := (blk_cell BK198.out 2).trans rfl; have hcz8_3 : w7.cell? ⟨gb198, 3, none⟩ = some (.int .i64 a0_3) := (blk_cell BK198.out 3).trans rfl; have hcz8_4 : w7.cell? ⟨gb198, 4, none⟩ = some (.int .i64 a0_4) := (blk_cell BK198.out 4).trans rfl; have hcz8_5 : w7.cell? ⟨gb198, 5, none⟩ = some (.int .i64 a0_5) := (blk_cell BK198.out 5).trans rfl; have hfz8_0 := blk_frozen BK198.out 0; have hfz8_1 := blk_frozen BK198.out 1; have hfz8_2 := blk_frozen BK198.out 2; have hfz8_3 := blk_frozen BK198.out 3; have hfz8_4 := blk_frozen BK198.out 4; have hfz8_5 := blk_frozen BK198.out 5) | (go_at_call 32; (with_reducible refine (input_Fills.calls a0_3 a1 t199 _ A4.out).mono ?_); rintro e w' ⟨rfl, ⟨nd, rfl⟩⟩; (try first | exact ⟨rfl, _, World.drewN_drewN _ _ _⟩ | exact ⟨rfl, _, Eq.trans (World.drewN_drewN _ _ _) (congrArg (World.drewN _) (Nat.add_assoc _ _ _))⟩)) | (go_at_call 32; (with_reducible refine (input_Fills.calls a0_3 a2 t200 _ A5.out).mono ?_); rintro e w' ⟨rfl, ⟨nd, rfl⟩⟩; (try first | exact ⟨rfl, _, World.drewN_drewN _ _ _⟩ | exact ⟨rfl, _, Eq.trans (World.drewN_drewN _ _ _) (congrArg (World.drewN _) (Nat.add_assoc _ _ _))⟩)) | (go_at_call 33; (with_reducible refine (input_Does.calls a0_2 t199 t200 t201 _ A6.out).mono ?_); rintro e w' ⟨rfl, ⟨nd, rfl⟩⟩; (try first | exact ⟨rfl, _, World.drewN_drewN _ _ _⟩ | exact ⟨rfl, _, Eq.trans (World.drewN_drewN _ _ _) (congrArg (World.drewN _) (Nat.add_assoc _ _ _))⟩))))
  go_ret
  exact ⟨by first | rfl | (simp [errW_none, errW_some] <;> rfl) | (simp [*, errW_none, errW_some] <;> rfl), by repeat (first | (with_reducible first | exact HB.out | apply below_alloc | apply pw_below_drewN | apply below_drew1 | refine below_set ?_ GE198.out) | exact HB.out)⟩

-- NOT PRINTED: function 56 (input_sides)

/-! ### input_twice: function 57 -/
def input_twice.f (a0_0 : Int) (a0_1 : Int) : Option (Int × Int) := (plane_Right.f a0_0 a0_1).bind fun t204 => (if t204 = true then (some (wrap64 (2 * a0_0), wrap64 (2 * a0_1))) else (some (1073741824, 0)))
set_option maxHeartbeats 8000000 in
set_option maxRecDepth 100000 in
theorem input_twice.calls (a0_0 : Int) (a0_1 : Int) (r1 : Int) (r2 : Int) (w : World) (h : input_twice.f a0_0 a0_1 = some (r1, r2)) :
    Calls Try.prog 57 #[.agg #[.int .i64 a0_0, .int .i64 a0_1]] w fun e w' => e = .returned (.agg #[.int .i64 r1, .int .i64 r2]) ∧ Below w.heap.size w w' := by
  have hu23 := Try.underlying23
  have HB := Aside0.mk (Below.refl w.heap.size w)
  have H : ((plane_Right.f a0_0 a0_1).bind fun t204 => (if t204 = true then (some (wrap64 (2 * a0_0), wrap64 (2 * a0_1))) else (some (1073741824, 0)))) = some (r1, r2) := h
  clear h
  replace H := Option.bind_eq_some_iff.mp H
  obtain ⟨t204, A20, H⟩ := H
  replace H : (if t204 = true then (some (wrap64 (2 * a0_0), wrap64 (2 * a0_1))) else (some (1073741824, 0))) = some (r1, r2) := H
  have A2 := Aside0.mk A20
  clear A20
  by_cases c3 : t204 = true
  · subst c3
    have H1 : (some (wrap64 (2 * a0_0), wrap64 (2 * a0_1))) = some (r1, r2) := by rw [if_pos rfl] at H; exact H
    clear H
    have H := H1
    clear H1
    simp only [Option.some.injEq, Prod.mk.injEq] at H
    obtain ⟨rfl, rfl⟩ := H
    go_enter Try.func57, Try.ntmps57
    go_wp2_with (first | ((with_reducible refine gate_dst (N := 1) rfl ?_); refine box_event ?hg (N := 1) ?hd (cs := #[.int .i64 a0_0, .int .i64 a0_1]) (t := 23) ?hr ?_; (case hd => rfl); (case hg => rfl); (case hr => first | (go_simp; done) | (go_simp; rfl)); intro gb202 hg w4 hbox hb; have n0_ := Aside0.mk (below_step (by repeat (first | (with_reducible first | exact HB.out | apply below_alloc | apply pw_below_drewN | apply below_drew1) | exact HB.out)) hb); have n1_ := Aside0.mk (hbox); have n2_ := Aside0.mk ((by rw [hg]; exact (below_size (by repeat (first | (with_reducible first | exact HB.out | apply below_alloc | apply pw_below_drewN | apply below_drew1) | exact HB.out))) : w.heap.size ≤ gb202)); have n3_ := Aside0.mk ((by rw [hg]; exact (below_size (by repeat (first | (with_reducible first | exact HB.out | apply below_alloc | apply pw_below_drewN | apply below_drew1) | exact HB.out))) : w.heap.size ≤ gb202)); clear HB; have HB := n0_; have BK202 := n1_; have GW202 := n2_; have GE202 := n3_; clear n0_ n1_ n2_ n3_; clear hb hbox hg) | ((with_reducible refine gate_dst (N := 2) rfl ?_); refine box_event ?hg (N := 2) ?hd (cs := #[.int .i64 0, .int .i64 0]) (t := 23) ?hr ?_; (case hd => rfl); (case hg => rfl); (case hr => first | (go_simp; done) | (go_simp; rfl)); intro gb203 hg w5 hbox hb; have n0_ := Aside0.mk (blk_below (g := gb202) (o := .cells #[.int .i64 a0_0, .int .i64 a0_1] 23 (0, 0)) (by (with_reducible repeat (first | refine blk_drewN ?_ _ | refine blk_drew ?_ | refine blk_alloc ?_ _)); exact BK202.out) hb); have n1_ := Aside0.mk (below_step (by repeat (first | (with_reducible first | exact HB.out | apply below_alloc | apply pw_below_drewN | apply below_drew1 | refine below_set ?_ GE202.out) | exact HB.out)) hb); have n2_ := Aside0.mk (hbox); have n3_ := Aside0.mk ((by rw [hg]; exact (below_size (by repeat (first | (with_reducible first | exact HB.out | apply below_alloc | apply pw_below_drewN | apply below_drew1 | refine below_set ?_ GE202.out) | exact HB.out))) : w.heap.size ≤ gb203)); have n4_ := Aside0.mk ((by rw [hg]; exact (below_size (by repeat (first | (with_reducible first | exact HB.out | apply below_alloc | apply pw_below_drewN | apply below_drew1 | refine below_set ?_ GE202.out) | exact HB.out))) : w.heap.size ≤ gb203)); have n5_ := Aside0.mk ((by rw [hg]; exact Nat.ne_of_lt (blk_lt (g := gb202) (o := .cells #[.int .i64 a0_0, .int .i64 a0_1] 23 (0, 0)) (by (with_reducible repeat (first | refine blk_drewN ?_ _ | refine blk_drew ?_ | refine blk_alloc ?_ _)); exact BK202.out)) : gb202 ≠ gb203)); have n6_ := Aside0.mk ((by rw [hg]; exact Nat.ne_of_gt (blk_lt (g := gb202) (o := .cells #[.int .i64 a0_0, .int .i64 a0_1] 23 (0, 0)) (by (with_reducible repeat (first | refine blk_drewN ?_ _ | refine blk_drew ?_ | refine blk_alloc ?_ _)); exact BK202.out)) : gb203 ≠ gb202)); clear BK202; clear HB; have BK202 := n0_; have HB := n1_; have BK203 := n2_; have GW203 := n3_; have GE203 := n4_; have NB202_203 := n5_; have NB203_202 := n6_; clear n0_ n1_ n2_ n3_ n4_ n5_ n6_; clear hb hbox hg; have hnb6 := NB202_203.out; have hnc6 := NB203_202.out; have hcz7_0 : w5.cell? ⟨gb202, 0, none⟩ = some (.int .i64 a0_0) := (blk_cell BK202.out 0).trans rfl; have hcz7_1 : w5.cell? ⟨gb202, 1, none⟩ = some (.int .i64 a0_1) := (blk_cell BK202.out 1).trans rfl; have hfz7_0 := blk_frozen BK202.out 0; have hfz7_1 := blk_frozen BK202.out 1) | ((with_reducible refine gate_callee (f := 20) rfl ?_); refine goesL_ (some 4) rfl rfl Try.func20 (by kernel_rfl) rfl #[.agg #[.int .i64 a0_0, .int .i64 a0_1]] rfl (by (try simp only [List.map_toArray, List.map_cons, List.map_nil]); first | done | rfl | (simp only [List.length_drop, List.length_take]; rfl)) ?_; (with_reducible refine (plane_Right.calls a0_0 a0_1 true _ A2.out).mono ?_); rintro e w8 ⟨rfl, hb⟩; refine ⟨_, rfl, ?_⟩; have n0_ := Aside0.mk (blk_below (g := gb202) (o := .cells #[.int .i64 a0_0, .int .i64 a0_1] 23 (0, 0)) (by (with_reducible repeat (first | refine blk_drewN ?_ _ | refine blk_drew ?_ | refine blk_alloc ?_ _)); exact BK202.out) hb); have n1_ := Aside0.mk (blk_below (g := gb203) (o := .cells #[.int .i64 0, .int .i64 0] 23 (0, 0)) (by (with_reducible repeat (first | refine blk_drewN ?_ _ | refine blk_drew ?_ | refine blk_alloc ?_ _)); exact BK203.out) hb); have n2_ := Aside0.mk (below_step (by repeat (first | (with_reducible first | exact HB.out | apply below_alloc | apply pw_below_drewN | apply below_drew1 | refine below_set ?_ GE202.out | refine below_set ?_ GE203.out) | exact HB.out)) hb); clear BK202; clear BK203; clear HB; have BK202 := n0_; have BK203 := n1_; have HB := n2_; clear n0_ n1_ n2_; (try clear hb); (try clear hb2); (try clear hk); (try clear hi); have hcz9_0 : w8.cell? ⟨gb202, 0, none⟩ = some (.int .i64 a0_0) := (blk_cell BK202.out 0).trans rfl; have hcz9_1 : w8.cell? ⟨gb202, 1, none⟩ = some (.int .i64 a0_1) := (blk_cell BK202.out 1).trans rfl; have hfz9_0 := blk_frozen BK202.out 0; have hfz9_1 := blk_frozen BK202.out 1; have hcz10_0 : w8.cell? ⟨gb203, 0, none⟩ = some (.int .i64 0) := (blk_cell BK203.out 0).trans rfl; have hcz10_1 : w8.cell? ⟨gb203, 1, none⟩ = some (.int .i64 0) := (blk_cell BK203.out 1).trans rfl; have hfz10_0 := blk_frozen BK203.out 0; have hfz10_1 := blk_frozen BK203.out 1))
    refine bodyPost_ret (results_cell_row rfl _ _ gb203 23 #[.int .i64 (wrap64 (2 * a0_0)), .int .i64 (wrap64 (2 * a0_1))] (0, 0) _ rfl (by (with_reducible repeat (first | refine blk_drewN ?_ _ | refine blk_drew ?_ | refine blk_alloc ?_ _)); refine blk_put (cs := #[.int .i64 (wrap64 (2 * a0_0)), .int .i64 0]) ?_ 1 _ rfl; (with_reducible repeat (first | refine blk_drewN ?_ _ | refine blk_drew ?_ | refine blk_alloc ?_ _)); refine blk_put (cs := #[.int .i64 0, .int .i64 0]) ?_ 0 _ rfl; (with_reducible repeat (first | refine blk_drewN ?_ _ | refine blk_drew ?_ | refine blk_alloc ?_ _)); exact BK203.out) Try.underlying23 rfl (by kernel_rfl)) rfl ?_
    exact ⟨by first | rfl | (simp [errW_none, errW_some] <;> rfl) | (simp [*, errW_none, errW_some] <;> rfl), by repeat (first | (with_reducible first | exact HB.out | apply below_alloc | apply pw_below_drewN | apply below_drew1 | refine below_set ?_ GE202.out | refine below_set ?_ GE203.out) | exact HB.out)⟩
  · replace c3 := Bool.eq_false_iff.mpr c3
    subst c3
    have H1 : (some (1073741824, 0)) = some (r1, r2) := by rw [if_neg (show ¬ (false = true) by decide)] at H; exact H
    clear H
    have H := H1
    clear H1
    simp only [Option.some.injEq, Prod.mk.injEq] at H
    obtain ⟨rfl, rfl⟩ := H
    go_enter Try.func57, Try.ntmps57
    go_wp2_with (first | ((with_reducible refine gate_dst (N := 1) rfl ?_); refine box_event ?hg (N := 1) ?hd (cs := #[.int .i64 a0_0, .int .i64 a0_1]) (t := 23) ?hr ?_; (case hd => rfl); (case hg => rfl); (case hr => first | (go_simp; done) | (go_simp; rfl)); intro gb202 hg w11 hbox hb; have n0_ := Aside0.mk (below_step (by repeat (first | (with_reducible first | exact HB.out | apply below_alloc | apply pw_below_drewN | apply below_drew1) | exact HB.out)) hb); have n1_ := Aside0.mk (hbox); have n2_ := Aside0.mk ((by rw [hg]; exact (below_size (by repeat (first | (with_reducible first | exact HB.out | apply below_alloc | apply pw_below_drewN | apply below_drew1) | exact HB.out))) : w.heap.size ≤ gb202)); have n3_ := Aside0.mk ((by rw [hg]; exact (below_size (by repeat (first | (with_reducible first | exact HB.out | apply below_alloc | apply pw_below_drewN | apply below_drew1) | exact HB.out))) : w.heap.size ≤ gb202)); clear HB; have HB := n0_; have BK202 := n1_; have GW202 := n2_; have GE202 := n3_; clear n0_ n1_ n2_ n3_; clear hb hbox hg) | ((with_reducible refine gate_dst (N := 2) rfl ?_); refine box_event ?hg (N := 2) ?hd (cs := #[.int .i64 0, .int .i64 0]) (t := 23) ?hr ?_; (case hd => rfl); (case hg => rfl); (case hr => first | (go_simp; done) | (go_simp; rfl)); intro gb203 hg w12 hbox hb; have n0_ := Aside0.mk (blk_below (g := gb202) (o := .cells #[.int .i64 a0_0, .int .i64 a0_1] 23 (0, 0)) (by (with_reducible repeat (first | refine blk_drewN ?_ _ | refine blk_drew ?_ | refine blk_alloc ?_ _)); exact BK202.out) hb); have n1_ := Aside0.mk (below_step (by repeat (first | (with_reducible first | exact HB.out | apply below_alloc | apply pw_below_drewN | apply below_drew1 | refine below_set ?_ GE202.out) | exact HB.out)) hb); have n2_ := Aside0.mk (hbox); have n3_ := Aside0.mk ((by rw [hg]; exact (below_size (by repeat (first | (with_reducible first | exact HB.out | apply below_alloc | apply pw_below_drewN | apply below_drew1 | refine below_set ?_ GE202.out) | exact HB.out))) : w.heap.size ≤ gb203)); have n4_ := Aside0.mk ((by rw [hg]; exact (below_size (by repeat (first | (with_reducible first | exact HB.out | apply below_alloc | apply pw_below_drewN | apply below_drew1 | refine below_set ?_ GE202.out) | exact HB.out))) : w.heap.size ≤ gb203)); have n5_ := Aside0.mk ((by rw [hg]; exact Nat.ne_of_lt (blk_lt (g := gb202) (o := .cells #[.int .i64 a0_0, .int .i64 a0_1] 23 (0, 0)) (by (with_reducible repeat (first | refine blk_drewN ?_ _ | refine blk_drew ?_ | refine blk_alloc ?_ _)); exact BK202.out)) : gb202 ≠ gb203)); have n6_ := Aside0.mk ((by rw [hg]; exact Nat.ne_of_gt (blk_lt (g := gb202) (o := .cells #[.int .i64 a0_0, .int .i64 a0_1] 23 (0, 0)) (by (with_reducible repeat (first | refine blk_drewN ?_ _ | refine blk_drew ?_ | refine blk_alloc ?_ _)); exact BK202.out)) : gb203 ≠ gb202)); clear BK202; clear HB; have BK202 := n0_; have HB := n1_; have BK203 := n2_; have GW203 := n3_; have GE203 := n4_; have NB202_203 := n5_; have NB203_202 := n6_; clear n0_ n1_ n2_ n3_ n4_ n5_ n6_; clear hb hbox hg; have hnb13 := NB202_203.out; have hnc13 := NB203_202.out; have hcz14_0 : w12.cell? ⟨gb202, 0, none⟩ = some (.int .i64 a0_0) := (blk_cell BK202.out 0).trans rfl; have hcz14_1 : w12.cell? ⟨gb202, 1, none⟩ = some (.int .i64 a0_1) := (blk_cell BK202.out 1).trans rfl; have hfz14_0 := blk_frozen BK202.out 0; have hfz14_1 := blk_frozen BK202.out 1) | ((with_reducible refine gate_callee (f := 20) rfl ?_); refine goesL_ (some 4) rfl rfl Try.func20 (by kernel_rfl) rfl #[.agg #[.int .i64 a0_0, .int .i64 a0_1]] rfl (by (try simp only [List.map_toArray, List.map_cons, List.map_nil]); first | done | rfl | (simp only [List.length_drop, List.length_take]; rfl)) ?_; (with_reducible refine (plane_Right.calls a0_0 a0_1 false _ A2.out).mono ?_); rintro e w15 ⟨rfl, hb⟩; refine ⟨_, rfl, ?_⟩; have n0_ := Aside0.mk (blk_below (g := gb202) (o := .cells #[.int .i64 a0_0, .int .i64 a0_1] 23 (0, 0)) (by (with_reducible repeat (first | refine blk_drewN ?_ _ | refine blk_drew ?_ | refine blk_alloc ?_ _)); exact BK202.out) hb); have n1_ := Aside0.mk (blk_below (g := gb203) (o := .cells #[.int .i64 0, .int .i64 0] 23 (0, 0)) (by (with_reducible repeat (first | refine blk_drewN ?_ _ | refine blk_drew ?_ | refine blk_alloc ?_ _)); exact BK203.out) hb); have n2_ := Aside0.mk (below_step (by repeat (first | (with_reducible first | exact HB.out | apply below_alloc | apply pw_below_drewN | apply below_drew1 | refine below_set ?_ GE202.out | refine below_set ?_ GE203.out) | exact HB.out)) hb); clear BK202; clear BK203; clear HB; have BK202 := n0_; have BK203 := n1_; have HB := n2_; clear n0_ n1_ n2_; (try clear hb); (try clear hb2); (try clear hk); (try clear hi); have hcz16_0 : w15.cell? ⟨gb203, 0, none⟩ = some (.int .i64 0) := (blk_cell BK203.out 0).trans rfl; have hcz16_1 : w15.cell? ⟨gb203, 1, none⟩ = some (.int .i64 0) := (blk_cell BK203.out 1).trans rfl; have hfz16_0 := blk_frozen BK203.out 0; have hfz16_1 := blk_frozen BK203.out 1))
    refine bodyPost_ret (results_cell_row rfl _ _ gb203 23 #[.int .i64 1073741824, .int .i64 0] (0, 0) _ rfl (by (with_reducible repeat (first | refine blk_drewN ?_ _ | refine blk_drew ?_ | refine blk_alloc ?_ _)); refine blk_put (cs := #[.int .i64 1073741824, .int .i64 0]) ?_ 1 _ rfl; (with_reducible repeat (first | refine blk_drewN ?_ _ | refine blk_drew ?_ | refine blk_alloc ?_ _)); refine blk_put (cs := #[.int .i64 0, .int .i64 0]) ?_ 0 _ rfl; (with_reducible repeat (first | refine blk_drewN ?_ _ | refine blk_drew ?_ | refine blk_alloc ?_ _)); exact BK203.out) Try.underlying23 rfl (by kernel_rfl)) rfl ?_
    exact ⟨by first | rfl | (simp [errW_none, errW_some] <;> rfl) | (simp [*, errW_none, errW_some] <;> rfl), by repeat (first | (with_reducible first | exact HB.out | apply below_alloc | apply pw_below_drewN | apply below_drew1 | refine below_set ?_ GE202.out | refine below_set ?_ GE203.out) | exact HB.out)⟩

-- NOT PRINTED: function 38 (input_Wind)

-- NOT PRINTED: function 73 (api_Ring_73)

-- NOT PRINTED: function 62 (api_Ring_62)

-- NOT PRINTED: function 80 (api_Point_80)

-- NOT PRINTED: function 74 (api_Point_74)

/-! ### input_far: function 75 -/
def input_far.f (a0_0 : Int) (a0_1 : Int) : Option (Bool) := if a0_0 < (-67108864) then (some true) else (if a0_0 > 67108864 then (some true) else (if a0_1 < (-67108864) then (some true) else (some (decide (a0_1 > 67108864)))))
set_option maxHeartbeats 8000000 in
set_option maxRecDepth 100000 in
theorem input_far.calls (a0_0 : Int) (a0_1 : Int) (r : Bool) (w : World) (h : input_far.f a0_0 a0_1 = some r) :
    Calls Try.prog 75 #[.agg #[.int .i64 a0_0, .int .i64 a0_1]] w fun e w' => e = .returned (.bool r) ∧ Below w.heap.size w w' := by
  have hu23 := Try.underlying23
  have HB := Aside0.mk (Below.refl w.heap.size w)
  have H : (if a0_0 < (-67108864) then (some true) else (if a0_0 > 67108864 then (some true) else (if a0_1 < (-67108864) then (some true) else (some (decide (a0_1 > 67108864)))))) = some r := h
  clear h
  by_cases c2 : a0_0 < (-67108864)
  · rw [if_pos c2] at H
    have c2b0 : decide (a0_0 < (-67108864)) = true := decide_eq_true c2
    clear c2
    obtain rfl := Option.some.inj H
    go_enter Try.func75, Try.ntmps75
    go_wp2_with (first | ((with_reducible refine gate_dst (N := 1) rfl ?_); refine box_event ?hg (N := 1) ?hd (cs := #[.int .i64 a0_0, .int .i64 a0_1]) (t := 23) ?hr ?_; (case hd => rfl); (case hg => rfl); (case hr => first | (go_simp; done) | (go_simp; rfl)); intro gb206 hg w3 hbox hb; have n0_ := Aside0.mk (below_step (by repeat (first | (with_reducible first | exact HB.out | apply below_alloc | apply pw_below_drewN | apply below_drew1) | exact HB.out)) hb); have n1_ := Aside0.mk (hbox); have n2_ := Aside0.mk ((by rw [hg]; exact (below_size (by repeat (first | (with_reducible first | exact HB.out | apply below_alloc | apply pw_below_drewN | apply below_drew1) | exact HB.out))) : w.heap.size ≤ gb206)); have n3_ := Aside0.mk ((by rw [hg]; exact (below_size (by repeat (first | (with_reducible first | exact HB.out | apply below_alloc | apply pw_below_drewN | apply below_drew1) | exact HB.out))) : w.heap.size ≤ gb206)); clear HB; have HB := n0_; have BK206 := n1_; have GW206 := n2_; have GE206 := n3_; clear n0_ n1_ n2_ n3_; clear hb hbox hg; have hcz4_0 : w3.cell? ⟨gb206, 0, none⟩ = some (.int .i64 a0_0) := (blk_cell BK206.out 0).trans rfl; have hcz4_1 : w3.cell? ⟨gb206, 1, none⟩ = some (.int .i64 a0_1) := (blk_cell BK206.out 1).trans rfl; have hfz4_0 := blk_frozen BK206.out 0; have hfz4_1 := blk_frozen BK206.out 1))
    go_ret
    exact ⟨by first | rfl | (simp [errW_none, errW_some] <;> rfl) | (simp [*, errW_none, errW_some] <;> rfl), by repeat (first | (with_reducible first | exact HB.out | apply below_alloc | apply pw_below_drewN | apply below_drew1 | refine below_set ?_ GE206.out) | exact HB.out)⟩
  · rw [if_neg c2] at H
    have c2b0 : decide (a0_0 < (-67108864)) = false := decide_eq_false c2
    clear c2
    by_cases c5 : a0_0 > 67108864
    · rw [if_pos c5] at H
      have c5b0 : decide (67108864 < a0_0) = true := decide_eq_true c5
      clear c5
      obtain rfl := Option.some.inj H
      go_enter Try.func75, Try.ntmps75
      go_wp2_with (first | ((with_reducible refine gate_dst (N := 1) rfl ?_); refine box_event ?hg (N := 1) ?hd (cs := #[.int .i64 a0_0, .int .i64 a0_1]) (t := 23) ?hr ?_; (case hd => rfl); (case hg => rfl); (case hr => first | (go_simp; done) | (go_simp; rfl)); intro gb206 hg w6 hbox hb; have n0_ := Aside0.mk (below_step (by repeat (first | (with_reducible first | exact HB.out | apply below_alloc | apply pw_below_drewN | apply below_drew1) | exact HB.out)) hb); have n1_ := Aside0.mk (hbox); have n2_ := Aside0.mk ((by rw [hg]; exact (below_size (by repeat (first | (with_reducible first | exact HB.out | apply below_alloc | apply pw_below_drewN | apply below_drew1) | exact HB.out))) : w.heap.size ≤ gb206)); have n3_ := Aside0.mk ((by rw [hg]; exact (below_size (by repeat (first | (with_reducible first | exact HB.out | apply below_alloc | apply pw_below_drewN | apply below_drew1) | exact HB.out))) : w.heap.size ≤ gb206)); clear HB; have HB := n0_; have BK206 := n1_; have GW206 := n2_; have GE206 := n3_; clear n0_ n1_ n2_ n3_; clear hb hbox hg; have hcz7_0 : w6.cell? ⟨gb206, 0, none⟩ = some (.int .i64 a0_0) := (blk_cell BK206.out 0).trans rfl; have hcz7_1 : w6.cell? ⟨gb206, 1, none⟩ = some (.int .i64 a0_1) := (blk_cell BK206.out 1).trans rfl; have hfz7_0 := blk_frozen BK206.out 0; have hfz7_1 := blk_frozen BK206.out 1))
      go_ret
      exact ⟨by first | rfl | (simp [errW_none, errW_some] <;> rfl) | (simp [*, errW_none, errW_some] <;> rfl), by repeat (first | (with_reducible first | exact HB.out | apply below_alloc | apply pw_below_drewN | apply below_drew1 | refine below_set ?_ GE206.out) | exact HB.out)⟩
    · rw [if_neg c5] at H
      have c5b0 : decide (67108864 < a0_0) = false := decide_eq_false c5
      clear c5
      by_cases c8 : a0_1 < (-67108864)
      · rw [if_pos c8] at H
        have c8b0 : decide (a0_1 < (-67108864)) = true := decide_eq_true c8
        clear c8
        obtain rfl := Option.some.inj H
        go_enter Try.func75, Try.ntmps75
        go_wp2_with (first | ((with_reducible refine gate_dst (N := 1) rfl ?_); refine box_event ?hg (N := 1) ?hd (cs := #[.int .i64 a0_0, .int .i64 a0_1]) (t := 23) ?hr ?_; (case hd => rfl); (case hg => rfl); (case hr => first | (go_simp; done) | (go_simp; rfl)); intro gb206 hg w9 hbox hb; have n0_ := Aside0.mk (below_step (by repeat (first | (with_reducible first | exact HB.out | apply below_alloc | apply pw_below_drewN | apply below_drew1) | exact HB.out)) hb); have n1_ := Aside0.mk (hbox); have n2_ := Aside0.mk ((by rw [hg]; exact (below_size (by repeat (first | (with_reducible first | exact HB.out | apply below_alloc | apply pw_below_drewN | apply below_drew1) | exact HB.out))) : w.heap.size ≤ gb206)); have n3_ := Aside0.mk ((by rw [hg]; exact (below_size (by repeat (first | (with_reducible first | exact HB.out | apply below_alloc | apply pw_below_drewN | apply below_drew1) | exact HB.out))) : w.heap.size ≤ gb206)); clear HB; have HB := n0_; have BK206 := n1_; have GW206 := n2_; have GE206 := n3_; clear n0_ n1_ n2_ n3_; clear hb hbox hg; have hcz10_0 : w9.cell? ⟨gb206, 0, none⟩ = some (.int .i64 a0_0) := (blk_cell BK206.out 0).trans rfl; have hcz10_1 : w9.cell? ⟨gb206, 1, none⟩ = some (.int .i64 a0_1) := (blk_cell BK206.out 1).trans rfl; have hfz10_0 := blk_frozen BK206.out 0; have hfz10_1 := blk_frozen BK206.out 1))
        go_ret
        exact ⟨by first | rfl | (simp [errW_none, errW_some] <;> rfl) | (simp [*, errW_none, errW_some] <;> rfl), by repeat (first | (with_reducible first | exact HB.out | apply below_alloc | apply pw_below_drewN | apply below_drew1 | refine below_set ?_ GE206.out) | exact HB.out)⟩
      · rw [if_neg c8] at H
        have c8b0 : decide (a0_1 < (-67108864)) = false := decide_eq_false c8
        clear c8
        obtain rfl := Option.some.inj H
        go_enter Try.func75, Try.ntmps75
        go_wp2_with (first | ((with_reducible refine gate_dst (N := 1) rfl ?_); refine box_event ?hg (N := 1) ?hd (cs := #[.int .i64 a0_0, .int .i64 a0_1]) (t := 23) ?hr ?_; (case hd => rfl); (case hg => rfl); (case hr => first | (go_simp; done) | (go_simp; rfl)); intro gb206 hg w11 hbox hb; have n0_ := Aside0.mk (below_step (by repeat (first | (with_reducible first | exact HB.out | apply below_alloc | apply pw_below_drewN | apply below_drew1) | exact HB.out)) hb); have n1_ := Aside0.mk (hbox); have n2_ := Aside0.mk ((by rw [hg]; exact (below_size (by repeat (first | (with_reducible first | exact HB.out | apply below_alloc | apply pw_below_drewN | apply below_drew1) | exact HB.out))) : w.heap.size ≤ gb206)); have n3_ := Aside0.mk ((by rw [hg]; exact (below_size (by repeat (first | (with_reducible first | exact HB.out | apply below_alloc | apply pw_below_drewN | apply below_drew1) | exact HB.out))) : w.heap.size ≤ gb206)); clear HB; have HB := n0_; have BK206 := n1_; have GW206 := n2_; have GE206 := n3_; clear n0_ n1_ n2_ n3_; clear hb hbox hg; have hcz12_0 : w11.cell? ⟨gb206, 0, none⟩ = some (.int .i64 a0_0) := (blk_cell BK206.out 0).trans rfl; have hcz12_1 : w11.cell? ⟨gb206, 1, none⟩ = some (.int .i64 a0_1) := (blk_cell BK206.out 1).trans rfl; have hfz12_0 := blk_frozen BK206.out 0; have hfz12_1 := blk_frozen BK206.out 1))
        go_ret
        exact ⟨by first | rfl | (simp [errW_none, errW_some] <;> rfl) | (simp [*, errW_none, errW_some] <;> rfl), by repeat (first | (with_reducible first | exact HB.out | apply below_alloc | apply pw_below_drewN | apply below_drew1 | refine below_set ?_ GE206.out) | exact HB.out)⟩

-- NOT PRINTED: function 63 (input_rings)

-- NOT PRINTED: function 45 (input_Check)

-- NOT PRINTED: function 47 (input_Edges)

-- NOT PRINTED: function 76 (api_Point_76)

-- NOT PRINTED: function 67 (input_copied)

-- NOT PRINTED: function 49 (input_Clone)

-- NOT PRINTED: function 77 (api_Ring_77)

-- NOT PRINTED: function 68 (input_alike)

-- NOT PRINTED: function 50 (input_Same)

-- NOT PRINTED: function 31 (cobweblaw11_alive)

/-! ### cobwebref11_Does: function 34 -/
def cobwebref11_Does.j0 : Nat → Int → Bool → Bool → Bool → Option (Bool)
  | 0, _, _, _, _ => none
  | k + 1, x0, x1, x2, x10 => if x10 = true then (if x0 = 0 then (some true) else (some (x0 == 1))) else (if x1 = true then (if x0 = 0 then (some true) else (if x0 = 2 then (some true) else (some (x0 == 3)))) else (if x2 = true then (if x0 = 0 then (some true) else (some (x0 == 3))) else (some false)))
def cobwebref11_Does.f (k : Nat) (a0 : Int) (a1 : Bool) (a2 : Bool) : Option (Bool) := if a1 = true then (cobwebref11_Does.j0 k a0 a1 a2 a2) else (cobwebref11_Does.j0 k a0 a1 a2 false)
set_option maxHeartbeats 8000000 in
set_option maxRecDepth 100000 in
theorem cobwebref11_Does.calls (k : Nat) (a0 : Int) (a1 : Bool) (a2 : Bool) (r : Bool) (w : World) (h : cobwebref11_Does.f k a0 a1 a2 = some r) :
    Calls Try.prog 34 #[.int .i64 a0, .bool a1, .bool a2] w fun e w' => e = .returned (.bool r) ∧ Drawn0 w w' := by
  have H : (if a1 = true then (cobwebref11_Does.j0 k a0 a1 a2 a2) else (cobwebref11_Does.j0 k a0 a1 a2 false)) = some r := h
  clear h
  have HC4 := Aside0.mk H
  clear H
  go_enter Try.func34, Try.ntmps34
  go_upto_region 1 with (fail)
  go_cut [10] (fun v10 wc => ∃ (kq : Nat) (x10_3 : Bool), v10 = .bool x10_3 ∧ Aside0 (cobwebref11_Does.j0 kq a0 a1 a2 x10_3 = some r) ∧ Aside0 (kq ≤ k) ∧ Drawn0 w wc)
  case first =>
    have H := HC4.out
    clear HC4
    by_cases c5 : a1 = true
    · subst c5
      have H1 : (cobwebref11_Does.j0 k a0 true a2 a2) = some r := by rw [if_pos rfl] at H; exact H
      clear H
      have H := H1
      clear H1
      have H' := Aside0.mk H
      clear H
      go_wp2
      go_meet
      case rel => exact ⟨_, (a2), (by first | rfl | (simp; done) | (simp [*]; done)), H', ⟨by first | omega | exact Nat.le_refl _⟩, by repeat (first | exact Drawn0.refl _ | apply Drawn0.step)⟩
    · replace c5 := Bool.eq_false_iff.mpr c5
      subst c5
      have H1 : (cobwebref11_Does.j0 k a0 false a2 false) = some r := by rw [if_neg (show ¬ (false = true) by decide)] at H; exact H
      clear H
      have H := H1
      clear H1
      have H' := Aside0.mk H
      clear H
      go_wp2
      go_meet
      case rel => exact ⟨_, (false), (by first | rfl | (simp; done) | (simp [*]; done)), H', ⟨by first | omega | exact Nat.le_refl _⟩, by repeat (first | exact Drawn0.refl _ | apply Drawn0.step)⟩
  case rest =>
    clear HC4
    try clear p2
    try clear c3
    try clear c5
    obtain ⟨kq, x10_3, rfl, HA, HJ3, ⟨mc3, rfl⟩⟩ := hcut
    cases kq with
    | zero => exact absurd HA.out (by simp [cobwebref11_Does.j0])
    | succ kj3 =>
      have H := HA.out
      clear HA
      simp only [cobwebref11_Does.j0] at H
      by_cases c6 : x10_3 = true
      · subst c6
        have H1 : (if a0 = 0 then (some true) else (some (a0 == 1))) = some r := by rw [if_pos rfl] at H; exact H
        clear H
        have H := H1
        clear H1
        by_cases c7 : a0 = 0
        · rw [if_pos c7] at H
          have c7b0 : (a0 == 0) = true := beq_iff_eq.mpr c7
          have c7b1 : (a0 != 0) = false := bne_eq_false_iff_eq.mpr c7
          clear c7
          obtain rfl := Option.some.inj H
          go_wp2
          go_ret
          exact ⟨by first | rfl | (simp; done) | (simp [*]; done), by repeat (first | exact Drawn0.refl _ | apply Drawn0.step)⟩
        · rw [if_neg c7] at H
          have c7b0 : (a0 == 0) = false := beq_eq_false_iff_ne.mpr c7
          have c7b1 : (a0 != 0) = true := bne_iff_ne.mpr c7
          obtain rfl := Option.some.inj H
          go_wp2
          go_ret
          exact ⟨by first | rfl | (simp; done) | (simp [*]; done), by repeat (first | exact Drawn0.refl _ | apply Drawn0.step)⟩
      · replace c6 := Bool.eq_false_iff.mpr c6
        subst c6
        have H1 : (if a1 = true then (if a0 = 0 then (some true) else (if a0 = 2 then (some true) else (some (a0 == 3)))) else (if a2 = true then (if a0 = 0 then (some true) else (some (a0 == 3))) else (some false))) = some r := by rw [if_neg (show ¬ (false = true) by decide)] at H; exact H
        clear H
        have H := H1
        clear H1
        by_cases c8 : a1 = true
        · subst c8
          have H1 : (if a0 = 0 then (some true) else (if a0 = 2 then (some true) else (some (a0 == 3)))) = some r := by rw [if_pos rfl] at H; exact H
          clear H
          have H := H1
          clear H1
          by_cases c9 : a0 = 0
          · rw [if_pos c9] at H
            have c9b0 : (a0 == 0) = true := beq_iff_eq.mpr c9
            have c9b1 : (a0 != 0) = false := bne_eq_false_iff_eq.mpr c9
            clear c9
            obtain rfl := Option.some.inj H
            go_wp2
            go_ret
            exact ⟨by first | rfl | (simp; done) | (simp [*]; done), by repeat (first | exact Drawn0.refl _ | apply Drawn0.step)⟩
          · rw [if_neg c9] at H
            have c9b0 : (a0 == 0) = false := beq_eq_false_iff_ne.mpr c9
            have c9b1 : (a0 != 0) = true := bne_iff_ne.mpr c9
            by_cases c10 : a0 = 2
            · rw [if_pos c10] at H
              have c10b0 : (a0 == 2) = true := beq_iff_eq.mpr c10
              have c10b1 : (a0 != 2) = false := bne_eq_false_iff_eq.mpr c10
              clear c10
              obtain rfl := Option.some.inj H
              go_wp2
              go_ret
              exact ⟨by first | rfl | (simp; done) | (simp [*]; done), by repeat (first | exact Drawn0.refl _ | apply Drawn0.step)⟩
            · rw [if_neg c10] at H
              have c10b0 : (a0 == 2) = false := beq_eq_false_iff_ne.mpr c10
              have c10b1 : (a0 != 2) = true := bne_iff_ne.mpr c10
              obtain rfl := Option.some.inj H
              go_wp2
              go_ret
              exact ⟨by first | rfl | (simp; done) | (simp [*]; done), by repeat (first | exact Drawn0.refl _ | apply Drawn0.step)⟩
        · replace c8 := Bool.eq_false_iff.mpr c8
          subst c8
          have H1 : (if a2 = true then (if a0 = 0 then (some true) else (some (a0 == 3))) else (some false)) = some r := by rw [if_neg (show ¬ (false = true) by decide)] at H; exact H
          clear H
          have H := H1
          clear H1
          by_cases c11 : a2 = true
          · subst c11
            have H1 : (if a0 = 0 then (some true) else (some (a0 == 3))) = some r := by rw [if_pos rfl] at H; exact H
            clear H
            have H := H1
            clear H1
            by_cases c12 : a0 = 0
            · rw [if_pos c12] at H
              have c12b0 : (a0 == 0) = true := beq_iff_eq.mpr c12
              have c12b1 : (a0 != 0) = false := bne_eq_false_iff_eq.mpr c12
              clear c12
              obtain rfl := Option.some.inj H
              go_wp2
              go_ret
              exact ⟨by first | rfl | (simp; done) | (simp [*]; done), by repeat (first | exact Drawn0.refl _ | apply Drawn0.step)⟩
            · rw [if_neg c12] at H
              have c12b0 : (a0 == 0) = false := beq_eq_false_iff_ne.mpr c12
              have c12b1 : (a0 != 0) = true := bne_iff_ne.mpr c12
              obtain rfl := Option.some.inj H
              go_wp2
              go_ret
              exact ⟨by first | rfl | (simp; done) | (simp [*]; done), by repeat (first | exact Drawn0.refl _ | apply Drawn0.step)⟩
          · replace c11 := Bool.eq_false_iff.mpr c11
            subst c11
            have H1 : (some false) = some r := by rw [if_neg (show ¬ (false = true) by decide)] at H; exact H
            clear H
            have H := H1
            clear H1
            obtain rfl := Option.some.inj H
            go_wp2
            go_ret
            exact ⟨by first | rfl | (simp; done) | (simp [*]; done), by repeat (first | exact Drawn0.refl _ | apply Drawn0.step)⟩

-- NOT PRINTED: function 6 (cobweblaw11_InputDoes)

-- NOT PRINTED: function 36 (cobweblaw11_Many)

/-! ### cobweblaw11_right: function 37 -/
-- NOT PRINTED: function 7 (cobweblaw11_InputMoved)

-- NOT PRINTED: function 8 (cobweblaw04_PlaneBoxes)

-- NOT PRINTED: function 9 (cobweblaw04_PlaneAround)

end Go.Proofs.Ytpfgjagpaddcpaa.X

/-! Twice a point; what Wind reckons of rings' edges, plainly. -/
namespace Go.Proofs.Ytpfgjagpaddcpaa.Own
open Go.RowKit Go.Proofs.YtpfgjagpaddcpaaW.PrintWords Go.Proofs.YtpfgjagpaddcpaaW.PrintLast Go.Proofs.YtpfgjagpaddcpaaW.PrintMore
open Go.Proofs.Ytpfgjagpaddcpaa.X
set_option linter.unusedVariables false
set_option linter.unusedSimpArgs false

/-- input.twice. -/
def tw (p : S23) : S23 := if rightB p.f0 p.f1 = true then ⟨2 * p.f0, 2 * p.f1⟩ else ⟨1073741824, 0⟩

theorem twice_f (x y : Int) : input_twice.f x y = some ((tw ⟨x, y⟩).f0, (tw ⟨x, y⟩).f1) := by
  unfold input_twice.f tw
  rw [right_f, Option.bind_some]
  by_cases h : rightB x y = true
  · have h' := h
    rw [rightB_iff] at h'
    have e1 : wrap64 (2 * x) = 2 * x := by unfold wrap64; omega
    have e2 : wrap64 (2 * y) = 2 * y := by unfold wrap64; omega
    simp only [h, if_true, e1, e2]
  · simp only [h]
    rfl

theorem twice_any (x y : Int) (w : World) : Calls Try.prog 57 #[ptV x y] w fun e w' => e = .returned (ptV (tw ⟨x, y⟩).f0 (tw ⟨x, y⟩).f1) ∧ Below w.heap.size w w' :=
  input_twice.calls _ _ _ _ w (twice_f x y)

/-- Is the place on an edge; are its ends right. -/
def onE (x y : Int) (e : S23 × S23) : Bool := onB x y (tw e.1).f0 (tw e.1).f1 (tw e.2).f0 (tw e.2).f1
def okE (e : S23 × S23) : Bool := rightB (tw e.1).f0 (tw e.1).f1
/-- How an edge turns around the place. -/
def tuE (x y : Int) (e : S23 × S23) : Int := sgn (crossB (tw e.1).f0 (tw e.1).f1 (tw e.2).f0 (tw e.2).f1 x y)
def upE (x y : Int) (e : S23 × S23) : Bool := decide ((tw e.1).f1 ≤ y ∧ y < (tw e.2).f1 ∧ 0 < tuE x y e)
def dnE (x y : Int) (e : S23 × S23) : Bool := decide ((tw e.2).f1 ≤ y ∧ y < (tw e.1).f1 ∧ tuE x y e < 0)
/-- What an edge adds. -/
def wnE (x y : Int) (e : S23 × S23) : Int := if upE x y e = true then 1 else if dnE x y e = true then -1 else 0

theorem up_not_dn {x y : Int} {e : S23 × S23} (h : upE x y e = true) : dnE x y e = false := by
  unfold upE at h
  unfold dnE
  rw [decide_eq_true_eq] at h
  rw [decide_eq_false_iff_not]
  omega

def wsum (x y : Int) (es : List (S23 × S23)) : Int := (es.map (wnE x y)).sum

theorem wsum_snoc (x y : Int) (es : List (S23 × S23)) (e : S23 × S23) : wsum x y (es ++ [e]) = wsum x y es + wnE x y e := by
  simp [wsum]

theorem wnE_bd (x y : Int) (e : S23 × S23) : -1 ≤ wnE x y e ∧ wnE x y e ≤ 1 := by
  unfold wnE
  split
  · omega
  · split <;> omega

theorem wsum_bd (x y : Int) (es : List (S23 × S23)) : -(es.length : Int) ≤ wsum x y es ∧ wsum x y es ≤ (es.length : Int) := by
  induction es with
  | nil => simp [wsum]
  | cons e es ih =>
    have h := wnE_bd x y e
    have h2 : wsum x y (e :: es) = wnE x y e + wsum x y es := by simp [wsum]
    rw [h2]
    simp only [List.length_cons]
    omega

/-- Is all right. -/
def okAll (x y : Int) (es : List (S23 × S23)) : Bool := rightB x y && es.all okE
/-- input.Wind, of all edges. -/
def windN (x y : Int) (es : List (S23 × S23)) : Int := if okAll x y es = true then (if es.any (onE x y) = true then 0 else wsum x y es) else 0
def windO (x y : Int) (es : List (S23 × S23)) : Bool := okAll x y es && es.any (onE x y)

theorem okAll_snoc (x y : Int) (es : List (S23 × S23)) (e : S23 × S23) : okAll x y (es ++ [e]) = (okAll x y es && okE e) := by
  simp [okAll, Bool.and_assoc]
theorem onAny_snoc (x y : Int) (es : List (S23 × S23)) (e : S23 × S23) : (es ++ [e]).any (onE x y) = (es.any (onE x y) || onE x y e) := by
  simp

/-- All edges of rings. -/
def allE (ls : List (List S23)) : List (S23 × S23) := ls.flatMap edgs
theorem allE_take (ls : List (List S23)) (i : Nat) (h : i < ls.length) : allE (ls.take (i + 1)) = allE (ls.take i) ++ edgs (ls.getD i []) := by
  unfold allE
  rw [List.take_add_one, List.flatMap_append, List.getD_eq_getElem?_getD, List.getElem?_eq_getElem h]
  simp only [Option.toList_some, Option.getD_some, List.flatMap_cons, List.flatMap_nil, List.append_nil]
end Go.Proofs.Ytpfgjagpaddcpaa.Own

/-! Wind's two points, doubled: the region that draws its order. -/
namespace Go.Proofs.Ytpfgjagpaddcpaa.Own
open Go.RowKit Go.Shelf Go.Proofs.YtpfgjagpaddcpaaW.PrintWords Go.Proofs.YtpfgjagpaddcpaaW.PrintLast Go.Proofs.YtpfgjagpaddcpaaW.PrintMore
open Go.Proofs.Ytpfgjagpaddcpaa.X
set_option linter.unusedVariables false
set_option linter.unusedSimpArgs false
attribute [local go_sem] Oper.semAt_some

theorem blk_two {W : World} {g : Nat} {t : TypeId} {u v a b : Value} (h : W.heap[g]? = some (.cells #[u, v] t (0, 0))) : ((W.setCell ⟨g, 0, none⟩ a).setCell ⟨g, 1, none⟩ b).heap[g]? = some (.cells #[a, b] t (0, 0)) :=
  blk_set (blk_set h 0 a) 1 b

theorem blk_two4 {W : World} {g g' : Nat} {t : TypeId} {u v a b a' b' : Value} (h : W.heap[g]? = some (.cells #[u, v] t (0, 0))) (hne : g ≠ g') :
    ((((W.setCell ⟨g', 0, none⟩ a').setCell ⟨g', 1, none⟩ b').setCell ⟨g, 0, none⟩ a).setCell ⟨g, 1, none⟩ b).heap[g]? = some (.cells #[a, b] t (0, 0)) :=
  blk_two ((Go.Deep.blk_setCell_other _ _ _ _ hne).trans ((Go.Deep.blk_setCell_other _ _ _ _ hne).trans h))

theorem blk_new' (W : World) (o : Obj) (k : Nat) (h : k = W.heap.size) : (W.alloc o).heap[k]? = some o := by rw [h]; exact blk_new W o

theorem twice_any23 (p : S23) (w : World) : Calls Try.prog 57 #[.agg #[.int .i64 p.f0, .int .i64 p.f1]] w fun e w' => e = .returned (.agg #[.int .i64 (tw p).f0, .int .i64 (tw p).f1]) ∧ Below w.heap.size w w' := twice_any p.f0 p.f1 w

theorem blk_new2 (W : World) (o p : Obj) : ((W.alloc o).alloc p).heap[W.heap.size + 1]? = some p := by
  have h := blk_new (W.alloc o) p
  rwa [World.size_alloc] at h

set_option maxRecDepth 100000 in
set_option maxHeartbeats 8000000 in
theorem wind_two (lp m b12 b13 : Nat) (hm : 1 ≤ m) (e : S23 × S23) (W : World) (H12 : Aside0 (W.heap[b12]? = some (.cells #[.int .i64 e.1.f0, .int .i64 e.1.f1] 23 (0, 0)))) (H13 : Aside0 (W.heap[b13]? = some (.cells #[.int .i64 e.2.f0, .int .i64 e.2.f1] 23 (0, 0))))
    (t0 t1 t2 t3 t4 t5 t6 t7 t8 t9 t10 t11 t14 t15 t16 t17 t18 t19 t20 t21 t22 t23 t24 t25 t26 t27 t28 t29 t30 t31 t32 t33 t34 t35 t36 t37 t38 t39 t40 t41 t42 t43 t44 t45 t46 t47 t48 t49 t50 t51 t52 t53 t54 t55 t56 t57 t58 t59 t60 t61 t62 t63 t64 t65 t66 t67 t68 t69 t70 t71 t72 t73 t74 t75 t76 t77 t78 t79 t80 t81 t82 t83 t84 t85 t86 t87 t88 t89 t90 : Value) (K : Act → World → Prop) (Q' : Exit → Act → World → Prop)
    (hK : ∀ (g14 g15 : Nat) (W' : World), Below W.heap.size W W' → W.heap.size ≤ g14 → W.heap.size ≤ g15 → W'.heap[g14]? = some (.cells #[.int .i64 (tw e.1).f0, .int .i64 (tw e.1).f1] 23 (0, 0)) → W'.heap[g15]? = some (.cells #[.int .i64 (tw e.2).f0, .int .i64 (tw e.2).f1] 23 (0, 0)) →
      K { tmps := List.toArray (t0 :: t1 :: t2 :: t3 :: t4 :: t5 :: t6 :: t7 :: t8 :: t9 :: t10 :: t11 :: (.pointer (some ⟨b12, 0, none⟩)) :: (.pointer (some ⟨b13, 0, none⟩)) :: (.pointer (some ⟨g14, 0, none⟩)) :: (.pointer (some ⟨g15, 0, none⟩)) :: t16 :: t17 :: t18 :: t19 :: t20 :: t21 :: t22 :: t23 :: t24 :: t25 :: t26 :: t27 :: t28 :: t29 :: t30 :: (.agg #[.int .i64 e.1.f0, .int .i64 e.1.f1]) :: (.agg #[.int .i64 (tw e.1).f0, .int .i64 (tw e.1).f1]) :: (.agg #[.int .i64 e.2.f0, .int .i64 e.2.f1]) :: (.agg #[.int .i64 (tw e.2).f0, .int .i64 (tw e.2).f1]) :: t35 :: t36 :: t37 :: t38 :: t39 :: t40 :: t41 :: t42 :: t43 :: t44 :: t45 :: t46 :: t47 :: t48 :: t49 :: t50 :: t51 :: t52 :: t53 :: t54 :: t55 :: t56 :: t57 :: t58 :: t59 :: t60 :: t61 :: t62 :: t63 :: t64 :: t65 :: t66 :: t67 :: t68 :: t69 :: t70 :: t71 :: t72 :: t73 :: t74 :: t75 :: t76 :: t77 :: t78 :: t79 :: t80 :: t81 :: t82 :: t83 :: t84 :: t85 :: t86 :: t87 :: t88 :: t89 :: t90 :: []), defers := [] } W') :
    Code.wpIn (Fence.wide.inRound lp) m Try.prog
      (Go.Code.region 9 #[{ dst := some 31, op := Op.load 23 (Go.Operand.tmp 12), type := 23, pos := "input.go:147", after := #[], guard := none }, { dst := some 32, op := Op.call { callee := Callee.value (Go.Operand.func 57), args := #[Go.Operand.tmp 31], argTypes := #[23] }, type := 23, pos := "input.go:147", after := #[{ on := 0, ground := Ground.data }], guard := none }, { dst := some 33, op := Op.load 23 (Go.Operand.tmp 13), type := 23, pos := "input.go:147", after := #[], guard := none }, { dst := some 34, op := Op.call { callee := Callee.value (Go.Operand.func 57), args := #[Go.Operand.tmp 33], argTypes := #[23] }, type := 23, pos := "input.go:147", after := #[{ on := 2, ground := Ground.data }, { on := 1, ground := Ground.chain }], guard := none }, { dst := some 14, op := Op.alloc 23, type := 0, pos := "input.go:147", after := #[], guard := none }, { dst := some 15, op := Op.alloc 23, type := 0, pos := "input.go:147", after := #[], guard := none }, { dst := none, op := Op.store 23 (Go.Operand.tmp 14) (Go.Operand.tmp 32), type := 0, pos := "input.go:147", after := #[{ on := 4, ground := Ground.data }, { on := 1, ground := Ground.data }, { on := 3, ground := Ground.chain }, { on := 0, ground := Ground.phase }, { on := 1, ground := Ground.phase }, { on := 2, ground := Ground.textOnly Departure.lateStores }, { on := 3, ground := Ground.textOnly Departure.lateStoresUnsure }, { on := 4, ground := Ground.phase }, { on := 5, ground := Ground.phase }], guard := none }, { dst := none, op := Op.store 23 (Go.Operand.tmp 15) (Go.Operand.tmp 34), type := 0, pos := "input.go:147", after := #[{ on := 5, ground := Ground.data }, { on := 3, ground := Ground.data }, { on := 6, ground := Ground.chain }, { on := 0, ground := Ground.phase }, { on := 1, ground := Ground.phase }, { on := 2, ground := Ground.phase }, { on := 3, ground := Ground.phase }, { on := 4, ground := Ground.phase }, { on := 5, ground := Ground.phase }, { on := 6, ground := Ground.phase }], guard := none }] true)
      (Exit.then K Q') { tmps := List.toArray (t0 :: t1 :: t2 :: t3 :: t4 :: t5 :: t6 :: t7 :: t8 :: t9 :: t10 :: t11 :: (.pointer (some ⟨b12, 0, none⟩)) :: (.pointer (some ⟨b13, 0, none⟩)) :: t14 :: t15 :: t16 :: t17 :: t18 :: t19 :: t20 :: t21 :: t22 :: t23 :: t24 :: t25 :: t26 :: t27 :: t28 :: t29 :: t30 :: t31 :: t32 :: t33 :: t34 :: t35 :: t36 :: t37 :: t38 :: t39 :: t40 :: t41 :: t42 :: t43 :: t44 :: t45 :: t46 :: t47 :: t48 :: t49 :: t50 :: t51 :: t52 :: t53 :: t54 :: t55 :: t56 :: t57 :: t58 :: t59 :: t60 :: t61 :: t62 :: t63 :: t64 :: t65 :: t66 :: t67 :: t68 :: t69 :: t70 :: t71 :: t72 :: t73 :: t74 :: t75 :: t76 :: t77 :: t78 :: t79 :: t80 :: t81 :: t82 :: t83 :: t84 :: t85 :: t86 :: t87 :: t88 :: t89 :: t90 :: []), defers := [] } W := by
  have hmx : Try.prog.follows .mixedOrders = true := by kernel_rfl
  have hu23 := Try.underlying23
  have HK := Aside0.mk hK
  clear hK
  have q0 := cell0 0 H12.out rfl; have q1 := cell0 1 H12.out rfl; have q2 := cell0 0 H13.out rfl; have q3 := cell0 1 H13.out rfl; have l12 := blk_lt H12.out; have n12 := Nat.ne_of_lt l12; have l13 := blk_lt H13.out; have n13 := Nat.ne_of_lt l13
  clear H12 H13
  gi_region_with_o (refine ⟨trivial, ?_⟩; gi_at_call 57; refine (CallsIn.inRound lp (callsIn_wide.2 (twice_any23 _ _))).mono ?_; rintro e1 w2 ⟨rfl, hb2⟩; have HX : Below W.heap.size W w2 := below_step (by repeat (first | exact Below.refl _ _ | assumption | apply below_drew1 | apply below_alloc)) hb2; have z0 := cell_on HX q0; have z1 := cell_on HX q1; have z2 := cell_on HX q2; have z3 := cell_on HX q3; have z8 := HX.size; have z4 := Nat.lt_of_lt_of_le l12 HX.size; have z5 := Nat.ne_of_lt z4; have z6 := Nat.lt_of_lt_of_le l13 HX.size; have z7 := Nat.ne_of_lt z6; (try (have yc := blk_below ya (below_step (by repeat (first | exact Below.refl _ _ | apply below_alloc)) hb2); have yc0 := cell0 0 yc rfl; have yc1 := cell0 1 yc rfl; have yc2 := blk_frozen yc 0; have yc3 := blk_frozen yc 1; have yc4 := blk_lt yc; have yc5 := Nat.ne_of_lt yc4)); (try (have yd := blk_below yb (below_step (by repeat (first | exact Below.refl _ _ | apply below_alloc)) hb2); have yd0 := cell0 0 yd rfl; have yd1 := cell0 1 yd rfl; have yd2 := blk_frozen yd 0; have yd3 := blk_frozen yd 1; have yd4 := blk_lt yd; have yd5 := Nat.ne_of_lt yd4)); (first | (have ya := blk_below (blk_new _ _) hb2; (try simp only [World.size_alloc, World.size_drew] at ya); have ya0 := cell0 0 ya rfl; have ya1 := cell0 1 ya rfl; have ya2 := blk_frozen ya 0; have ya3 := blk_frozen ya 1; have ya4 := blk_lt ya; have ya5 := Nat.ne_of_lt ya4) | (have ya := blk_below (show (World.drew _).heap[_]? = some (.cells _ _ (0, 0)) from blk_new _ _) hb2; (try simp only [World.size_alloc, World.size_drew] at ya); have ya0 := cell0 0 ya rfl; have ya1 := cell0 1 ya rfl; have ya2 := blk_frozen ya 0; have ya3 := blk_frozen ya 1; have ya4 := blk_lt ya; have ya5 := Nat.ne_of_lt ya4) | skip); (first | (have yb := blk_below ((Below.heap_alloc _ _ _ (by simp)).trans (blk_new _ _)) hb2; (try simp only [World.size_alloc, World.size_drew] at yb); have yb0 := cell0 0 yb rfl; have yb1 := cell0 1 yb rfl; have yb2 := blk_frozen yb 0; have yb3 := blk_frozen yb 1; have yb4 := blk_lt yb; have yb5 := Nat.ne_of_lt yb4) | (have yb := blk_below (show (World.drew _).heap[_]? = some (.cells _ _ (0, 0)) from (Below.heap_alloc _ _ _ (by simp)).trans (blk_new _ _)) hb2; (try simp only [World.size_alloc, World.size_drew] at yb); have yb0 := cell0 0 yb rfl; have yb1 := cell0 1 yb rfl; have yb2 := blk_frozen yb 0; have yb3 := blk_frozen yb 1; have yb4 := blk_lt yb; have yb5 := Nat.ne_of_lt yb4) | skip); clear hb2)
  all_goals
    show K _ _
    refine HK.out _ _ _ ?_ ?_ ?_ ?_ ?_
    · repeat (first | assumption | exact Below.refl _ _ | apply below_alloc | apply below_drew1 | (refine Below.setCell ?_ ?_ _; rotate_left; (first | exact Nat.le_refl _ | exact Nat.le_add_right _ _ | (show _ ≤ _; omega) | (simp; done) | (simp; omega))))
    · first | omega | (simp; omega)
    · first | omega | (simp; omega)
    · repeat (first | with_reducible exact blk_new _ _ | with_reducible exact blk_new2 _ _ _ | with_reducible exact blk_two ya | with_reducible exact blk_two4 ya (by simp; first | done | omega) | with_reducible exact blk_two yb | with_reducible exact blk_two4 yb (by simp; first | done | omega) | with_reducible exact blk_two yc | with_reducible exact blk_two4 yc (by simp; first | done | omega) | with_reducible exact blk_two yd | with_reducible exact blk_two4 yd (by simp; first | done | omega) | (with_reducible refine (Go.Deep.blk_setCell_other _ _ _ _ (by simp; first | done | omega)).trans ?_) | (with_reducible refine (Below.heap_alloc _ _ _ (by simp; first | done | omega)).trans ?_) | (with_reducible refine blk_new' _ _ _ (by simp; first | done | omega)))
    · repeat (first | with_reducible exact blk_new _ _ | with_reducible exact blk_new2 _ _ _ | with_reducible exact blk_two ya | with_reducible exact blk_two4 ya (by simp; first | done | omega) | with_reducible exact blk_two yb | with_reducible exact blk_two4 yb (by simp; first | done | omega) | with_reducible exact blk_two yc | with_reducible exact blk_two4 yc (by simp; first | done | omega) | with_reducible exact blk_two yd | with_reducible exact blk_two4 yd (by simp; first | done | omega) | (with_reducible refine (Go.Deep.blk_setCell_other _ _ _ _ (by simp; first | done | omega)).trans ?_) | (with_reducible refine (Below.heap_alloc _ _ _ (by simp; first | done | omega)).trans ?_) | (with_reducible refine blk_new' _ _ _ (by simp; first | done | omega)))
end Go.Proofs.Ytpfgjagpaddcpaa.Own

/-! Wind, walked. -/
namespace Go.Proofs.Ytpfgjagpaddcpaa.Own
open Go.RowKit Go.Shelf Go.Proofs.YtpfgjagpaddcpaaW.PrintWords Go.Proofs.YtpfgjagpaddcpaaW.PrintLast Go.Proofs.YtpfgjagpaddcpaaW.PrintMore
open Go.Proofs.Ytpfgjagpaddcpaa.X
set_option linter.unusedVariables false
set_option linter.unusedSimpArgs false
attribute [local go_sem] Oper.semAt_some

/-- What Wind's own boxes hold when the edges es are over. -/
def WI (w : World) (x y : Int) (g9 : Nat) (es : List (S23 × S23)) (W : World) : Prop :=
  (Boxed W w.heap.size 3 (.int .i64 y) ∧ Boxed W (w.heap.size + 1) 3 (.int .i64 (wsum x y es)) ∧ Boxed W (w.heap.size + 1 + 1) 4 (.bool (es.any (onE x y))) ∧
    W.heap[w.heap.size + 1 + 1 + 1]? = some (.cells #[.int .i64 x, .int .i64 y] 23 (0, 0)) ∧ Boxed W g9 4 (.bool (okAll x y es))) ∧ Below w.heap.size w W ∧ w.heap.size + 1 + 1 + 1 < g9

theorem WI_own (w : World) (x y : Int) (g9 : Nat) (E0 : List (S23 × S23)) (B : Nat) (hB : w.heap.size ≤ B) : OwnFrom B (fun pre W => WI w x y g9 (E0 ++ pre) W) := by
  intro pre X Y row hs hg hr
  obtain ⟨⟨h1, h2, h3, h4, h5⟩, h6, h7⟩ := hs
  have hr' : ∀ r, row = some r → ∃ o : Obj, X.heap[r]? = some o ∧ o.isCells = false := fun r e => (hr r e).2
  exact ⟨⟨cells_own _ (fun _ : Unit => _) 3 () X Y row h1 hg hr', cells_own _ (fun _ : Unit => _) 3 () X Y row h2 hg hr', cells_own _ (fun _ : Unit => _) 4 () X Y row h3 hg hr', cells_own _ (fun _ : Unit => _) 23 () X Y row h4 hg hr', cells_own _ (fun _ : Unit => _) 4 () X Y row h5 hg hr'⟩,
    h6.grown hg h6.size (fun k e => Nat.le_trans hB (hr k e).1), h7⟩

theorem WI_below {w : World} {x y : Int} {g9 : Nat} {es : List (S23 × S23)} {W W' : World} (h : WI w x y g9 es W) (hb : Below W.heap.size W W') : WI w x y g9 es W' := by
  obtain ⟨⟨h1, h2, h3, h4, h5⟩, h6, h7⟩ := h
  have k : ∀ {B : Nat} {o : Obj}, W.heap[B]? = some o → W'.heap[B]? = some o := fun {B o} h => (hb.block B (Array.getElem?_eq_some_iff.1 h).1).trans h
  exact ⟨⟨k h1, k h2, k h3, k h4, k h5⟩, h6.trans (hb.mono h6.size), h7⟩

/-- A round of Wind, between two of its steps: what the boxes hold; what has been kept since the round's start W. -/
def BS (s : Nat) (x y : Int) (g9 Bs g14 g15 : Nat) (e : S23 × S23) (W : World) (n : Int) (on ok : Bool) (V : World) : Prop :=
  (Boxed V s 3 (.int .i64 y) ∧ Boxed V (s + 1) 3 (.int .i64 n) ∧ Boxed V (s + 1 + 1) 4 (.bool on) ∧ V.heap[s + 1 + 1 + 1]? = some (.cells #[.int .i64 x, .int .i64 y] 23 (0, 0)) ∧ Boxed V g9 4 (.bool ok)) ∧
  (V.heap[g14]? = some (.cells #[.int .i64 (tw e.1).f0, .int .i64 (tw e.1).f1] 23 (0, 0)) ∧ V.heap[g15]? = some (.cells #[.int .i64 (tw e.2).f0, .int .i64 (tw e.2).f1] 23 (0, 0))) ∧
  (KeepsOthers W V ∧ Below s W V ∧ V.heap[Bs]? = W.heap[Bs]?) ∧ (s + 1 + 1 + 1 < g9 ∧ g9 < Bs ∧ Bs < W.heap.size ∧ W.heap.size ≤ g14 ∧ W.heap.size ≤ g15)

section
variable {s : Nat} {x y : Int} {g9 Bs g14 g15 : Nat} {e : S23 × S23} {W : World} {n : Int} {on ok : Bool} {V : World}

theorem BS_below (h : BS s x y g9 Bs g14 g15 e W n on ok V) {V' : World} (hb : Below V.heap.size V V') : BS s x y g9 Bs g14 g15 e W n on ok V' := by
  obtain ⟨⟨h1, h2, h3, h4, h5⟩, ⟨h6, h7⟩, ⟨h8, h9, h10⟩, h11⟩ := h
  have k : ∀ {B : Nat} {o : Obj}, V.heap[B]? = some o → V'.heap[B]? = some o := fun {B o} h => (hb.block B (Array.getElem?_eq_some_iff.1 h).1).trans h
  have hsz := h8.size
  exact ⟨⟨k h1, k h2, k h3, k h4, k h5⟩, ⟨k h6, k h7⟩, ⟨h8.trans (keeps_below hb), h9.trans (hb.mono (by omega)), (hb.block _ (by omega)).trans h10⟩, h11⟩

/-- One of Wind's three boxes that turn is written. -/
theorem BS_put (k : Nat) (u : Value) (hk : k = s + 1 ∨ k = s + 1 + 1 ∨ k = g9) (h : BS s x y g9 Bs g14 g15 e W n on ok V) (n' : Int) (on' ok' : Bool)
    (hn : Boxed (V.setCell ⟨k, 0, none⟩ u) (s + 1) 3 (.int .i64 n')) (ho : Boxed (V.setCell ⟨k, 0, none⟩ u) (s + 1 + 1) 4 (.bool on')) (hr : Boxed (V.setCell ⟨k, 0, none⟩ u) g9 4 (.bool ok')) :
    BS s x y g9 Bs g14 g15 e W n' on' ok' (V.setCell ⟨k, 0, none⟩ u) := by
  obtain ⟨⟨h1, h2, h3, h4, h5⟩, ⟨h6, h7⟩, ⟨h8, h9, h10⟩, p1, p2, p3, p4, p5⟩ := h
  have kk : ∀ {B : Nat} {o : Obj}, B ≠ k → V.heap[B]? = some o → (V.setCell ⟨k, 0, none⟩ u).heap[B]? = some o := fun {B o} hne h => (Go.Deep.blk_setCell_other _ _ _ _ hne).trans h
  exact ⟨⟨kk (by omega) h1, hn, ho, kk (by omega) h4, hr⟩, ⟨kk (by omega) h6, kk (by omega) h7⟩, ⟨h8.trans (KeepsOthers.setCell _ _ _), h9.setCell (p := ⟨k, 0, none⟩) (show s ≤ k by omega) _, (Go.Deep.blk_setCell_other _ _ _ _ (show Bs ≠ k by omega)).trans h10⟩, p1, p2, p3, p4, p5⟩

theorem BS_n (h : BS s x y g9 Bs g14 g15 e W n on ok V) (n' : Int) : BS s x y g9 Bs g14 g15 e W n' on ok (V.setCell ⟨s + 1, 0, none⟩ (.int .i64 n')) := by
  have hh := h
  obtain ⟨⟨h1, h2, h3, h4, h5⟩, _, _, p1, p2, p3, p4, p5⟩ := h
  exact BS_put _ _ (Or.inl rfl) hh _ _ _ (h2.set _) (h3.other (by omega) _) (h5.other (by omega) _)
theorem BS_on (h : BS s x y g9 Bs g14 g15 e W n on ok V) (on' : Bool) : BS s x y g9 Bs g14 g15 e W n on' ok (V.setCell ⟨s + 1 + 1, 0, none⟩ (.bool on')) := by
  have hh := h
  obtain ⟨⟨h1, h2, h3, h4, h5⟩, _, _, p1, p2, p3, p4, p5⟩ := h
  exact BS_put _ _ (Or.inr (Or.inl rfl)) hh _ _ _ (h2.other (by omega) _) (h3.set _) (h5.other (by omega) _)
theorem BS_ok (h : BS s x y g9 Bs g14 g15 e W n on ok V) (ok' : Bool) : BS s x y g9 Bs g14 g15 e W n on ok' (V.setCell ⟨g9, 0, none⟩ (.bool ok')) := by
  have hh := h
  obtain ⟨⟨h1, h2, h3, h4, h5⟩, _, _, p1, p2, p3, p4, p5⟩ := h
  exact BS_put _ _ (Or.inr (Or.inr rfl)) hh _ _ _ (h2.other (by omega) _) (h3.other (by omega) _) (h5.set _)

/-- What the walk reads of it. -/
theorem BS_reads (h : BS s x y g9 Bs g14 g15 e W n on ok V) :
    (V.cell? ⟨s, 0, none⟩ = some (.int .i64 y) ∧ V.cell? ⟨s + 1, 0, none⟩ = some (.int .i64 n) ∧ V.cell? ⟨s + 1 + 1, 0, none⟩ = some (.bool on) ∧ V.cell? ⟨s + 1 + 1 + 1, 0, none⟩ = some (.int .i64 x) ∧ V.cell? ⟨s + 1 + 1 + 1, 1, none⟩ = some (.int .i64 y) ∧ V.cell? ⟨g9, 0, none⟩ = some (.bool ok)) ∧
    (V.cell? ⟨g14, 0, none⟩ = some (.int .i64 (tw e.1).f0) ∧ V.cell? ⟨g14, 1, none⟩ = some (.int .i64 (tw e.1).f1) ∧ V.cell? ⟨g15, 0, none⟩ = some (.int .i64 (tw e.2).f0) ∧ V.cell? ⟨g15, 1, none⟩ = some (.int .i64 (tw e.2).f1)) ∧
    (V.frozen? ⟨s + 1, 0, none⟩ = false ∧ V.frozen? ⟨s + 1 + 1, 0, none⟩ = false ∧ V.frozen? ⟨g9, 0, none⟩ = false) := by
  obtain ⟨⟨h1, h2, h3, h4, h5⟩, ⟨h6, h7⟩, _⟩ := h
  exact ⟨⟨h1.cell, h2.cell, h3.cell, cell0 0 h4 rfl, cell0 1 h4 rfl, h5.cell⟩, ⟨cell0 0 h6 rfl, cell0 1 h6 rfl, cell0 0 h7 rfl, cell0 1 h7 rfl⟩, h2.frozen, h3.frozen, h5.frozen⟩
end

theorem wind_end (w : World) (tmps : Array Value) (ds : List Deferred) (V : World) (N : Int) (O : Bool) (h6 : tmps.getD 6 undef = .pointer (some ⟨w.heap.size + 1, 0, none⟩)) (h7 : tmps.getD 7 undef = .pointer (some ⟨w.heap.size + 1 + 1, 0, none⟩))
    (b6 : Boxed V (w.heap.size + 1) 3 (.int .i64 N)) (b7 : Boxed V (w.heap.size + 1 + 1) 4 (.bool O)) (hB : Below w.heap.size w V) (hM : Mk w ds V) :
    bodyPostM Fence.wide 9 Try.prog Try.f38 (fun e w' => e = .returned (.tuple #[.int .i64 N, .bool O]) ∧ Below w.heap.size w w') .ret { tmps := tmps, defers := ds } V := by
  obtain ⟨Ds, h1, h2, h3⟩ := hM
  refine leaves_marks (u := .returning) (by simp) (fun W => Boxed W (w.heap.size + 1) 3 (.int .i64 N) ∧ Boxed W (w.heap.size + 1 + 1) 4 (.bool O) ∧ Below w.heap.size w W) w.heap.size ?_ ?_ Ds ds V h2 h1 h3 ⟨b6, b7, hB⟩
  · rintro W D ⟨k6, k7, kB⟩ hD hK
    have hr : ∀ r, some D = some r → ∃ o : Obj, W.heap[r]? = some o ∧ o.isCells = false := fun r e => by cases e; exact ⟨_, hK, rfl⟩
    exact ⟨cells_own _ (fun _ : Unit => _) 3 () W _ (some D) k6 (grownBy_putObj' W D (.deferred none)) hr, cells_own _ (fun _ : Unit => _) 4 () W _ (some D) k7 (grownBy_putObj' W D (.deferred none)) hr,
      kB.grown (grownBy_putObj' W D (.deferred none)) kB.size (fun k e => by cases e; exact hD)⟩
  · rintro W ⟨k6, k7, kB⟩
    have hu3 := Try.underlying3
    have hu4 := Try.underlying4
    have c6 := k6.cell
    have c7 := k7.cell
    refine ⟨.tuple #[.int .i64 N, .bool O], ?_, rfl, kB⟩
    have hres : Try.f38.results = #[.cell 6 3, .cell 7 4] := rfl
    have h6' : tmps[6]?.getD undef = .pointer (some ⟨w.heap.size + 1, 0, none⟩) := by simpa using h6
    have h7' : tmps[7]?.getD undef = .pointer (some ⟨w.heap.size + 1 + 1, 0, none⟩) := by simpa using h7
    simp only [results, hres]
    simp [h6', h7', go_sem, c6, c7]

set_option maxRecDepth 100000 in
set_option maxHeartbeats 8000000 in
theorem wind_any (A : Option Addr) (c : Nat) (ls : List (List S23)) (x y : Int) (w : World) (hC : Kd.C (Kd.slice 23 k23) w A ls.length ls) (hc : ls.length ≤ c) (hm : (allE ls).length + ls.length ≤ 4611686018427387904) :
    Calls Try.prog 38 #[.slice A ls.length c, .int .i64 x, .int .i64 y] w fun e w' => e = .returned (.tuple #[.int .i64 (windN x y (allE ls)), .bool (windO x y (allE ls))]) ∧ Below w.heap.size w w' := by
  have hmx : Try.prog.follows .mixedOrders = true := by kernel_rfl
  have hu23 := Try.underlying23
  have HC := Aside0.mk hC
  clear hC
  refine (callsIn_wide (n := 9)).1 ?_
  refine callsIn_of_wp_marks Try.func38 rfl trivial ?_ rfl
  simp only [Try.ntmps38, List.size_toArray, List.length_cons, List.length_nil, Nat.reduceAdd, Nat.reduceSub, Array.replicate_succ, Array.replicate_zero, List.push_toArray, List.append_toArray, List.nil_append, List.cons_append]
  gi_wp2_with (refine ⟨trivial, ?_⟩; gi_at_call 20; refine (callsIn_wide.2 (right_any _ _ _)).mono ?_; rintro e w1 ⟨rfl, hb⟩)
  have HI : Aside0 (WI w x y w1.heap.size [] (w1.alloc (.cells #[.bool (rightB x y)] 4))) := by
    have b5 := (((Boxed.new w 3 (.int .i64 y)).alloc (.cells #[.int .i64 0] 3)).alloc (.cells #[.bool false] 4)).alloc (.cells #[.int .i64 x, .int .i64 y] 23)
    have b6 := ((Boxed.new (w.alloc (.cells #[.int .i64 y] 3)) 3 (.int .i64 0)).alloc (.cells #[.bool false] 4)).alloc (.cells #[.int .i64 x, .int .i64 y] 23)
    have b7 := (Boxed.new ((w.alloc (.cells #[.int .i64 y] 3)).alloc (.cells #[.int .i64 0] 3)) 4 (.bool false)).alloc (.cells #[.int .i64 x, .int .i64 y] 23)
    have b8 := blk_new (((w.alloc (.cells #[.int .i64 y] 3)).alloc (.cells #[.int .i64 0] 3)).alloc (.cells #[.bool false] 4)) (.cells #[.int .i64 x, .int .i64 y] 23)
    simp only [World.size_alloc] at b5 b6 b7 b8
    have hB0 : Below w.heap.size w ((((w.alloc (.cells #[.int .i64 y] 3)).alloc (.cells #[.int .i64 0] 3)).alloc (.cells #[.bool false] 4)).alloc (.cells #[.int .i64 x, .int .i64 y] 23)) :=
      ((((Below.refl _ w).alloc (Nat.le_refl _) _).alloc (by simp) _).alloc (by simp; omega) _).alloc (by simp; omega) _
    have hsz : (((((w.alloc (.cells #[.int .i64 y] 3)).alloc (.cells #[.int .i64 0] 3)).alloc (.cells #[.bool false] 4)).alloc (.cells #[.int .i64 x, .int .i64 y] 23))).heap.size = w.heap.size + 1 + 1 + 1 + 1 := by simp
    have hs1 := hb.size
    have hb2 := hb.trans (((Below.refl _ w1).alloc (Nat.le_refl _) (.cells #[.bool (rightB x y)] 4)).mono hs1)
    clear hb
    generalize (((w.alloc (.cells #[.int .i64 y] 3)).alloc (.cells #[.int .i64 0] 3)).alloc (.cells #[.bool false] 4)).alloc (.cells #[.int .i64 x, .int .i64 y] 23) = WA at b5 b6 b7 b8 hB0 hsz hs1 hb2
    have k : ∀ {B : Nat} {o : Obj}, WA.heap[B]? = some o → (w1.alloc (.cells #[.bool (rightB x y)] 4)).heap[B]? = some o := fun {B o} h => (hb2.block B (Array.getElem?_eq_some_iff.1 h).1).trans h
    exact ⟨⟨⟨k b5, k b6, k b7, k b8, by simpa [okAll] using Boxed.new w1 4 (.bool (rightB x y))⟩, hB0.trans (hb2.mono hB0.size), by omega⟩⟩
  obtain ⟨g9, hg9⟩ : ∃ g9, w1.heap.size = g9 := ⟨_, rfl⟩
  rw [hg9] at HI ⊢
  generalize w1.alloc (.cells #[.bool (rightB x y)] 4) = W0 at HI ⊢
  clear hb hg9
  clear w1
  refine wpIn_loop (fun a' wr => ∃ (k : Nat) (ds : List Deferred) (u11 u12 u13 u14 u15 u24 u25 u26 u27 u28 u29 u30 u31 u32 u33 u34 u35 u36 u37 u38 u39 u40 u41 u42 u43 u44 u45 u46 u47 u48 u49 u50 u51 u52 u53 u54 u55 u56 u57 u58 u59 u60 u61 u62 u63 u64 u65 u66 u67 u68 u69 u70 u71 u72 u73 u74 u75 u76 u77 u78 u79 u80 u81 u82 u83 u84 u85 : Value), (Aside0 (k ≤ ls.length) ∧ Aside0 (WI w x y g9 (allE (ls.take k)) wr) ∧ Aside0 (Mk w ds wr)) ∧ a' = { tmps := List.toArray ((.slice A ls.length c) :: (.int .i64 x) :: (.int .i64 y) :: (undef) :: (undef) :: (.pointer (some ⟨w.heap.size, 0, none⟩)) :: (.pointer (some ⟨w.heap.size + 1, 0, none⟩)) :: (.pointer (some ⟨w.heap.size + 1 + 1, 0, none⟩)) :: (.pointer (some ⟨w.heap.size + 1 + 1 + 1, 0, none⟩)) :: (.pointer (some ⟨g9, 0, none⟩)) :: (undef) :: (u11) :: (u12) :: (u13) :: (u14) :: (u15) :: (.int .i64 x) :: (.int .i64 y) :: (.agg #[.int .i64 x, .int .i64 y]) :: (.agg #[.int .i64 x, .int .i64 y]) :: (.bool (rightB x y)) :: (.slice A ls.length c) :: (.int .i64 ls.length) :: (.int .i64 k) :: (u24) :: (u25) :: (u26) :: (u27) :: (u28) :: (u29) :: (u30) :: (u31) :: (u32) :: (u33) :: (u34) :: (u35) :: (u36) :: (u37) :: (u38) :: (u39) :: (u40) :: (u41) :: (u42) :: (u43) :: (u44) :: (u45) :: (u46) :: (u47) :: (u48) :: (u49) :: (u50) :: (u51) :: (u52) :: (u53) :: (u54) :: (u55) :: (u56) :: (u57) :: (u58) :: (u59) :: (u60) :: (u61) :: (u62) :: (u63) :: (u64) :: (u65) :: (u66) :: (u67) :: (u68) :: (u69) :: (u70) :: (u71) :: (u72) :: (u73) :: (u74) :: (u75) :: (u76) :: (u77) :: (u78) :: (u79) :: (u80) :: (u81) :: (u82) :: (u83) :: (u84) :: (u85) :: (undef) :: (undef) :: (undef) :: (undef) :: (undef) :: []), defers := ds }) (fun a' _ => ls.length - (intOf (a'.tmps.getD 23 undef)).toNat) ?_ ?_
  · refine ⟨0, [], _, _, _, _, _, _, _, _, _, _, _, _, _, _, _, _, _, _, _, _, _, _, _, _, _, _, _, _, _, _, _, _, _, _, _, _, _, _, _, _, _, _, _, _, _, _, _, _, _, _, _, _, _, _, _, _, _, _, _, _, _, _, _, _, _, _, _, ⟨⟨Nat.zero_le _⟩, by simpa [allE] using HI, ⟨⟨[], List.nodup_nil, rfl, fun _ h => by cases h⟩⟩⟩, rfl⟩
  intro a' wr hinv
  obtain ⟨k, ds, u11, u12, u13, u14, u15, u24, u25, u26, u27, u28, u29, u30, u31, u32, u33, u34, u35, u36, u37, u38, u39, u40, u41, u42, u43, u44, u45, u46, u47, u48, u49, u50, u51, u52, u53, u54, u55, u56, u57, u58, u59, u60, u61, u62, u63, u64, u65, u66, u67, u68, u69, u70, u71, u72, u73, u74, u75, u76, u77, u78, u79, u80, u81, u82, u83, u84, u85, ⟨Hk, HI2, HM⟩, rfl⟩ := hinv
  have hk := Hk.out
  clear HI
  by_cases hlt : k < ls.length
  · have hlt' : (k : Int) < (ls.length : Int) := by omega
    have d0 : decide ((k : Int) < (ls.length : Int)) = true := decide_eq_true hlt'
    obtain ⟨ad, A0, c0, e1, hx0, hc0, hC0⟩ := at_L2 HC.out (k : Int) (by omega) hlt'
    cases e1
    simp only [Int.toNat_natCast] at hx0
    replace hx0 := (HI2.out.2.1.cell (World.block_lt_of_cell? w _ hx0)).trans hx0
    have q0 : (0 : Int) ≤ (k : Int) := by omega
    obtain ⟨r, hr⟩ : ∃ r, rd_L2 ls (k : Int) = r := ⟨_, rfl⟩
    rw [hr] at hx0 hc0 hC0
    have HCr := Aside0.mk hC0
    have HR := Aside0.mk (show ls.getD k [] = r by rw [← hr]; simp [rd_L2])
    clear hC0 hr
    have HN := Aside0.mk (show (allE (ls.take (k + 1))).length ≤ (allE ls).length by
      have : ls = ls.take (k + 1) ++ ls.drop (k + 1) := (List.take_append_drop _ _).symm
      have h2 : allE ls = allE (ls.take (k + 1)) ++ allE (ls.drop (k + 1)) := by (conv => lhs; rw [this]); exact List.flatMap_append
      rw [h2, List.length_append]; omega)
    have HT := Aside0.mk (show allE (ls.take (k + 1)) = allE (ls.take k) ++ edgs r by rw [allE_take ls k hlt, HR.out])
    gi_wp2_with (refine ⟨trivial, ?_⟩; gi_at_call 56; refine (sides_in _ _ _ _ _).mono ?_; rintro e w' ⟨rfl, rfl⟩)
    obtain ⟨E0, hE0⟩ : ∃ E0, allE (ls.take k) = E0 := ⟨_, rfl⟩
    rw [hE0] at HI2 HT
    clear hx0 d0 hE0
    have HBx := Aside0.mk (Boxed.new wr 47 (.slice A0 r.length c0))
    have HI3 := Aside0.mk (WI_below HI2.out ((Below.refl _ wr).alloc (Nat.le_refl _) (.cells #[.slice A0 r.length c0] 47)))
    have HM3 := Aside0.mk (show Mk w ds (wr.alloc (.cells #[.slice A0 r.length c0] 47)) by
      obtain ⟨Ds, h1, h2, h3⟩ := HM.out
      exact ⟨Ds, h1, h2, fun D hD => ⟨(h3 D hD).1, (KeepsOthers.alloc wr _).same D _ (h3 D hD).2 rfl⟩⟩)
    have HG3 := Aside0.mk (show g9 < wr.heap.size from (Array.getElem?_eq_some_iff.1 HI2.out.1.2.2.2.2).1)
    obtain ⟨Bs, hBs⟩ : ∃ Bs, wr.heap.size = Bs := ⟨_, rfl⟩
    rw [hBs] at HBx HG3 ⊢
    generalize wr.alloc (.cells #[.slice A0 r.length c0] 47) = WL at HBx HI3 HM3 ⊢
    have HW3 := Aside0.mk (show w.heap.size ≤ WL.heap.size from HI3.out.2.1.size)
    have HBL := Aside0.mk (show Bs < WL.heap.size from HBx.out.lt)
    clear HM HI2 hBs
    clear wr
    have HL := Aside0.mk (show r.length ≤ (allE ls).length by have := HN.out; rw [HT.out, List.length_append, edgs_length] at this; omega)
    refine wpIn_rangeFunc_ownH rfl (by omega) (gf := 71) (lb := #[.pointer (some ⟨Bs, 0, none⟩)]) rfl trivial (enters_of Try.func71 (by kernel_rfl) rfl)
      (sides_stops 8 (by omega) Bs w.heap.size w WL A0 c0 r HCr.out hc0 (by have := HL.out; omega) rfl HI3.out.2.1 HBx.out) KpR_t (KpR_b HW3.out HBL.out) (Below.refl _ _) (fun _ => rfl)
      (fun pre W => WI w x y g9 (E0 ++ pre) W ∧ KeepsFrom w.heap.size WL W)
      (fun _ _ _ => False)
      (OwnFrom.and (WI_own w x y g9 E0 _ HW3.out) (ownFrom_keepsFrom (Nat.le_refl _)))
      (fun _ _ _ _ _ hs _ _ => hs)
      ⟨by rw [List.append_nil]; exact HI3.out, KeepsFrom.refl _ _⟩
      (fun e a' W => ∃ b12 b13, Bs < b12 ∧ Bs < b13 ∧ W.heap[b12]? = some (.cells #[.int .i64 e.1.f0, .int .i64 e.1.f1] 23 (0, 0)) ∧ W.heap[b13]? = some (.cells #[.int .i64 e.2.f0, .int .i64 e.2.f1] 23 (0, 0)) ∧ a' = { tmps := List.toArray ((.slice (some ad) ls.length c) :: (.int .i64 x) :: (.int .i64 y) :: (undef) :: (undef) :: (.pointer (some ⟨w.heap.size, 0, none⟩)) :: (.pointer (some ⟨w.heap.size + 1, 0, none⟩)) :: (.pointer (some ⟨w.heap.size + 1 + 1, 0, none⟩)) :: (.pointer (some ⟨w.heap.size + 1 + 1 + 1, 0, none⟩)) :: (.pointer (some ⟨g9, 0, none⟩)) :: (undef) :: (.slice A0 r.length c0) :: (.pointer (some ⟨b12, 0, none⟩)) :: (.pointer (some ⟨b13, 0, none⟩)) :: (u14) :: (u15) :: (.int .i64 x) :: (.int .i64 y) :: (.agg #[.int .i64 x, .int .i64 y]) :: (.agg #[.int .i64 x, .int .i64 y]) :: (.bool (rightB x y)) :: (.slice (some ad) ls.length c) :: (.int .i64 ls.length) :: (.int .i64 k) :: (.bool true) :: (.pointer (some (ad.add k))) :: (.slice A0 r.length c0) :: (.slice A0 r.length c0) :: (.func (.func 71) #[] #[.pointer (some ⟨Bs, 0, none⟩)]) :: (ptV e.1.f0 e.1.f1) :: (ptV e.2.f0 e.2.f1) :: (u31) :: (u32) :: (u33) :: (u34) :: (u35) :: (u36) :: (u37) :: (u38) :: (u39) :: (u40) :: (u41) :: (u42) :: (u43) :: (u44) :: (u45) :: (u46) :: (u47) :: (u48) :: (u49) :: (u50) :: (u51) :: (u52) :: (u53) :: (u54) :: (u55) :: (u56) :: (u57) :: (u58) :: (u59) :: (u60) :: (u61) :: (u62) :: (u63) :: (u64) :: (u65) :: (u66) :: (u67) :: (u68) :: (u69) :: (u70) :: (u71) :: (u72) :: (u73) :: (u74) :: (u75) :: (u76) :: (u77) :: (u78) :: (u79) :: (u80) :: (u81) :: (u82) :: (u83) :: (u84) :: (u85) :: (undef) :: (undef) :: (undef) :: (undef) :: (undef) :: []), defers := [] })
      (fun e a' _ X Y row hs hg hr => by
        obtain ⟨b12, b13, h1, h2, h3, h4, h5⟩ := hs
        have hr' : ∀ r, row = some r → ∃ o : Obj, X.heap[r]? = some o ∧ o.isCells = false := fun r e => (hr r e).2
        exact ⟨b12, b13, h1, h2, cells_own _ (fun _ : Unit => _) 23 () X Y row h3 hg hr', cells_own _ (fun _ : Unit => _) 23 () X Y row h4 hg hr', h5⟩)
      ?assign ?body ?done ?stop
    case assign =>
      rintro lp pre e W K ⟨hi, hk⟩ hK
      have hB2 : Below W.heap.size W ((W.alloc (.cells #[.int .i64 e.1.f0, .int .i64 e.1.f1] 23)).alloc (.cells #[.int .i64 e.2.f0, .int .i64 e.2.f1] 23)) := ((Below.refl _ W).alloc (Nat.le_refl _) _).alloc (by simp) _
      have hsz := hk.size
      have hKO := keeps_below hB2
      have hws := hi.2.1.size
      have hbl := HBL.out
      have k0 := Below.heap_alloc (W.alloc (.cells #[.int .i64 e.1.f0, .int .i64 e.1.f1] 23)) (.cells #[.int .i64 e.2.f0, .int .i64 e.2.f1] 23) W.heap.size (by simp)
      have k1 := blk_new W (.cells #[.int .i64 e.1.f0, .int .i64 e.1.f1] 23)
      have k2 := blk_new (W.alloc (.cells #[.int .i64 e.1.f0, .int .i64 e.1.f1] 23)) (.cells #[.int .i64 e.2.f0, .int .i64 e.2.f1] 23)
      rw [World.size_alloc] at k2
      gi_wp2
      exact hK _ _ (hKO.from _) ⟨hB2.mono hws, hB2.block _ (by omega)⟩ ⟨WI_below hi hB2, hk.trans (hKO.from _)⟩ ⟨W.heap.size, W.heap.size + 1, by omega, by omega, k0.trans k1, k2, rfl⟩
    case body =>
      rintro lp pre e a' W hl ⟨rc, hrc⟩ ⟨hi, hk⟩ ⟨b12, b13, h12, h13, k12, k13, rfl⟩ hlt2
      have HIW := Aside0.mk hi
      have HKW := Aside0.mk hk
      have HSZ := Aside0.mk (Nat.lt_of_lt_of_le HBL.out hk.size)
      have H12 := Aside0.mk k12
      have H13 := Aside0.mk k13
      clear hi hk hrc hl k12 k13
      have HN2 := Aside0.mk (show ((E0 ++ pre).length : Int) < 4611686018427387904 by
        have h1 := HN.out
        rw [HT.out, List.length_append, edgs_length] at h1
        rw [List.length_append]
        omega)
      have hbd := wsum_bd x y (E0 ++ pre)
      obtain ⟨E, hE⟩ : ∃ E, E0 ++ pre = E := ⟨_, rfl⟩
      have HE := Aside0.mk (show E0 ++ (pre ++ [e]) = E ++ [e] by rw [← hE, List.append_assoc])
      rw [hE] at HIW HN2 hbd
      have hn2 := HN2.out
      have hw1 : IntKind.i64.wrap (wsum x y E + 1) = wsum x y E + 1 := IntWalk.i64_in _ (by omega)
      have hw2 : IntKind.i64.wrap (wsum x y E - 1) = wsum x y E - 1 := IntWalk.i64_in _ (by omega)
      have hg9 := HG3.out
      clear hE hn2 hbd HN2
      gi_upto_region 9 with (fail)
      refine wind_two lp _ b12 b13 (by omega) e W H12 H13 _ _ _ _ _ _ _ _ _ _ _ _ _ _ _ _ _ _ _ _ _ _ _ _ _ _ _ _ _ _ _ _ _ _ _ _ _ _ _ _ _ _ _ _ _ _ _ _ _ _ _ _ _ _ _ _ _ _ _ _ _ _ _ _ _ _ _ _ _ _ _ _ _ _ _ _ _ _ _ _ _ _ _ _ _ _ _ _ _ _ _ ?_
      intro g14 g15 W' hB h14 h15 k14 k15
      have HS := Aside0.mk (show BS w.heap.size x y g9 Bs g14 g15 e W (wsum x y E) (E.any (onE x y)) (okAll x y E) W' from by
        have hi := WI_below HIW.out hB
        exact ⟨hi.1, ⟨k14, k15⟩, ⟨keeps_below hB, hB.mono HIW.out.2.1.size, hB.block _ HSZ.out⟩, HIW.out.2.2, hg9, HSZ.out, h14, h15⟩)
      obtain ⟨n, hn⟩ : ∃ n, wsum x y E = n := ⟨_, rfl⟩
      rw [hn] at HS hw1 hw2
      have Hn := Aside0.mk hn
      clear hB h14 h15 k14 k15 H12 H13 hn hg9
      gi_upto_region 10 with (fail)
      gi_cut [] from 86 (fun wc => Aside0 (BS w.heap.size x y g9 Bs g14 g15 e W n (E.any (onE x y)) (okAll x y (E ++ [e])) wc))
      case first =>
        obtain ⟨⟨c1, c2, c3, c4, c5, c6⟩, ⟨c7, c8, c9, c10⟩, f1, f2, f3⟩ := BS_reads HS.out
        cases hr0 : okAll x y E with
        | false =>
          rw [hr0] at HS c6
          gi_wp2
          refine ⟨trivial, ?_⟩
          gi_wp2
          gi_meet
          case rel => rw [okAll_snoc, hr0]; exact ⟨BS_ok HS.out false⟩
        | true =>
          rw [hr0] at HS c6
          gi_wp2_with (refine ⟨trivial, ?_⟩; gi_at_call 20; refine (CallsIn.inRound lp (callsIn_wide.2 (right_any _ _ _))).mono ?_; rintro e1 w2 ⟨rfl, hb2⟩; have HS2 := Aside0.mk (BS_below HS.out hb2); obtain ⟨⟨d1, d2, d3, d4, d5, d6⟩, ⟨d7, d8, d9, d10⟩, r1, r2, r3⟩ := BS_reads HS2.out)
          gi_meet
          case rel => rw [okAll_snoc, hr0]; exact ⟨BS_ok HS2.out _⟩
      case rest =>
        clear HS
        have HS := hcut
        clear hcut
        gi_upto_region 11 with (fail)
        gi_cut [] from 86 (fun wc => Aside0 (BS w.heap.size x y g9 Bs g14 g15 e W n ((E ++ [e]).any (onE x y)) (okAll x y (E ++ [e])) wc))
        case first =>
          obtain ⟨⟨c1, c2, c3, c4, c5, c6⟩, ⟨c7, c8, c9, c10⟩, f1, f2, f3⟩ := BS_reads HS.out
          cases hr0 : E.any (onE x y) with
          | true =>
            rw [hr0] at HS c3
            gi_wp2
            refine ⟨trivial, ?_⟩
            gi_wp2
            gi_meet
            case rel => rw [onAny_snoc, hr0]; exact ⟨BS_on HS.out true⟩
          | false =>
            rw [hr0] at HS c3
            gi_wp2_with (refine ⟨trivial, ?_⟩; gi_at_call 26; refine (CallsIn.inRound lp (callsIn_wide.2 (on_any _ _ _ _ _ _ _))).mono ?_; rintro e1 w2 ⟨rfl, hb2⟩; have HS2 := Aside0.mk (BS_below HS.out hb2); obtain ⟨⟨d1, d2, d3, d4, d5, d6⟩, ⟨d7, d8, d9, d10⟩, r1, r2, r3⟩ := BS_reads HS2.out)
            gi_meet
            case rel => rw [onAny_snoc, hr0]; exact ⟨BS_on HS2.out _⟩
        case rest =>
          clear HS
          have HS := hcut
          clear hcut
          gi_upto_region 12 with (fail)
          gi_cut [63] from 86 (fun v63 wc => v63 = .bool (upE x y e) ∧ Aside0 (BS w.heap.size x y g9 Bs g14 g15 e W n ((E ++ [e]).any (onE x y)) (okAll x y (E ++ [e])) wc))
          case first =>
            obtain ⟨⟨c1, c2, c3, c4, c5, c6⟩, ⟨c7, c8, c9, c10⟩, f1, f2, f3⟩ := BS_reads HS.out
            have HU := Aside0.mk (show upE x y e = decide ((tw e.1).f1 ≤ y ∧ y < (tw e.2).f1 ∧ 0 < tuE x y e) from rfl)
            by_cases h1 : (tw e.1).f1 ≤ y
            · have i1 : decide ((tw e.1).f1 ≤ y) = true := decide_eq_true h1
              by_cases h2 : y < (tw e.2).f1
              · have i2 : decide (y < (tw e.2).f1) = true := decide_eq_true h2
                by_cases h3 : 0 < tuE x y e
                · have i3 : decide (0 < sgn (crossB (tw e.1).f0 (tw e.1).f1 (tw e.2).f0 (tw e.2).f1 x y)) = true := decide_eq_true h3
                  gi_wp2_with (refine ⟨trivial, ?_⟩; gi_at_call 23; refine (CallsIn.inRound lp (callsIn_wide.2 (turn_any _ _ _ _ _ _ _))).mono ?_; rintro e1 w2 ⟨rfl, hb2⟩; have HS2 := Aside0.mk (BS_below HS.out hb2))
                  gi_meet
                  case rel => exact ⟨congrArg Value.bool (by unfold upE; exact (decide_eq_true (by omega)).symm), HS2⟩
                · have i3 : decide (0 < sgn (crossB (tw e.1).f0 (tw e.1).f1 (tw e.2).f0 (tw e.2).f1 x y)) = false := decide_eq_false h3
                  gi_wp2_with (refine ⟨trivial, ?_⟩; gi_at_call 23; refine (CallsIn.inRound lp (callsIn_wide.2 (turn_any _ _ _ _ _ _ _))).mono ?_; rintro e1 w2 ⟨rfl, hb2⟩; have HS2 := Aside0.mk (BS_below HS.out hb2))
                  gi_meet
                  case rel => exact ⟨congrArg Value.bool (by unfold upE; exact (decide_eq_false (by omega)).symm), HS2⟩
              · have i2 : decide (y < (tw e.2).f1) = false := decide_eq_false h2
                gi_wp2
                refine ⟨trivial, ?_⟩
                gi_wp2
                gi_meet
                case rel => exact ⟨congrArg Value.bool (by unfold upE; exact (decide_eq_false (by omega)).symm), HS⟩
            · have i1 : decide ((tw e.1).f1 ≤ y) = false := decide_eq_false h1
              gi_wp2
              refine ⟨trivial, ?_⟩
              gi_wp2
              gi_meet
              case rel => exact ⟨congrArg Value.bool (by unfold upE; exact (decide_eq_false (by omega)).symm), HS⟩
          case rest =>
            clear HS
            obtain ⟨rfl, HS⟩ := hcut
            gi_upto_if 63 with (fail)
            gi_cut [63] from 86 (fun v63 wc => Aside0 (BS w.heap.size x y g9 Bs g14 g15 e W (if upE x y e = true then n + 1 else n) ((E ++ [e]).any (onE x y)) (okAll x y (E ++ [e])) wc))
            case first =>
              obtain ⟨⟨c1, c2, c3, c4, c5, c6⟩, ⟨c7, c8, c9, c10⟩, f1, f2, f3⟩ := BS_reads HS.out
              cases hu : upE x y e with
              | true =>
                gi_wp2
                gi_meet
                case rel => rw [hu]; exact ⟨BS_n HS.out (n + 1)⟩
              | false =>
                gi_wp2
                gi_meet
                case rel => rw [hu]; exact HS
            case rest =>
              clear HS
              have HS := hcut
              clear hcut
              gi_upto_region 14 with (fail)
              gi_cut [82] from 86 (fun v82 wc => v82 = .bool (dnE x y e) ∧ Aside0 (BS w.heap.size x y g9 Bs g14 g15 e W (if upE x y e = true then n + 1 else n) ((E ++ [e]).any (onE x y)) (okAll x y (E ++ [e])) wc))
              case first =>
                obtain ⟨⟨c1, c2, c3, c4, c5, c6⟩, ⟨c7, c8, c9, c10⟩, f1, f2, f3⟩ := BS_reads HS.out
                by_cases h1 : (tw e.2).f1 ≤ y
                · have i1 : decide ((tw e.2).f1 ≤ y) = true := decide_eq_true h1
                  by_cases h2 : y < (tw e.1).f1
                  · have i2 : decide (y < (tw e.1).f1) = true := decide_eq_true h2
                    by_cases h3 : tuE x y e < 0
                    · have i3 : decide (sgn (crossB (tw e.1).f0 (tw e.1).f1 (tw e.2).f0 (tw e.2).f1 x y) < 0) = true := decide_eq_true h3
                      gi_wp2_with (refine ⟨trivial, ?_⟩; gi_at_call 23; refine (CallsIn.inRound lp (callsIn_wide.2 (turn_any _ _ _ _ _ _ _))).mono ?_; rintro e1 w2 ⟨rfl, hb2⟩; have HS2 := Aside0.mk (BS_below HS.out hb2))
                      gi_meet
                      case rel => exact ⟨congrArg Value.bool (by unfold dnE; exact (decide_eq_true (by omega)).symm), HS2⟩
                    · have i3 : decide (sgn (crossB (tw e.1).f0 (tw e.1).f1 (tw e.2).f0 (tw e.2).f1 x y) < 0) = false := decide_eq_false h3
                      gi_wp2_with (refine ⟨trivial, ?_⟩; gi_at_call 23; refine (CallsIn.inRound lp (callsIn_wide.2 (turn_any _ _ _ _ _ _ _))).mono ?_; rintro e1 w2 ⟨rfl, hb2⟩; have HS2 := Aside0.mk (BS_below HS.out hb2))
                      gi_meet
                      case rel => exact ⟨congrArg Value.bool (by unfold dnE; exact (decide_eq_false (by omega)).symm), HS2⟩
                  · have i2 : decide (y < (tw e.1).f1) = false := decide_eq_false h2
                    gi_wp2
                    refine ⟨trivial, ?_⟩
                    gi_wp2
                    gi_meet
                    case rel => exact ⟨congrArg Value.bool (by unfold dnE; exact (decide_eq_false (by omega)).symm), HS⟩
                · have i1 : decide ((tw e.2).f1 ≤ y) = false := decide_eq_false h1
                  gi_wp2
                  refine ⟨trivial, ?_⟩
                  gi_wp2
                  gi_meet
                  case rel => exact ⟨congrArg Value.bool (by unfold dnE; exact (decide_eq_false (by omega)).symm), HS⟩
              case rest =>
                clear HS
                obtain ⟨rfl, HS⟩ := hcut
                have HZ := Aside0.mk (wsum_snoc x y E e)
                cases hd : dnE x y e with
                | false =>
                  have HQ := Aside0.mk (show (if upE x y e = true then n + 1 else n) = wsum x y (E ++ [e]) by
                    rw [HZ.out, Hn.out]; unfold wnE; rw [hd]; split <;> simp)
                  rw [HQ.out] at HS
                  gi_wp2
                  exact ⟨HS.out.2.2.1.1.from _, HS.out.2.2.1.2, by rw [HE.out]; exact ⟨HS.out.1, HIW.out.2.1.trans HS.out.2.2.1.2.1, HS.out.2.2.2.1⟩, HKW.out.trans (HS.out.2.2.1.1.from _)⟩
                | true =>
                  have hu : upE x y e = false := by
                    cases hu : upE x y e with
                    | false => rfl
                    | true => rw [up_not_dn hu] at hd; cases hd
                  rw [hu] at HS
                  have HS1 := Aside0.mk (show BS w.heap.size x y g9 Bs g14 g15 e W n ((E ++ [e]).any (onE x y)) (okAll x y (E ++ [e])) wc from HS.out)
                  clear HS
                  obtain ⟨⟨c1, c2, c3, c4, c5, c6⟩, ⟨c7, c8, c9, c10⟩, f1, f2, f3⟩ := BS_reads HS1.out
                  have HQ := Aside0.mk (show n - 1 = wsum x y (E ++ [e]) by rw [HZ.out, Hn.out]; unfold wnE; rw [hu, hd]; simp; omega)
                  gi_wp2
                  have HS := BS_n HS1.out (n - 1)
                  rw [HQ.out] at HS
                  rw [HQ.out]
                  exact ⟨HS.2.2.1.1.from _, HS.2.2.1.2, by rw [HE.out]; exact ⟨HS.1, HIW.out.2.1.trans HS.2.2.1.2.1, HS.2.2.2.1⟩, HKW.out.trans (HS.2.2.1.1.from _)⟩
    case done =>
      rintro D es W hD rfl ⟨hi, hk⟩ hK
      have HI4 := Aside0.mk (show WI w x y g9 (allE (ls.take (k + 1))) W by rw [HT.out]; exact hi)
      have HM4 := Aside0.mk (show Mk w ({ target := .collected D, args := #[] } :: ds) W by
        obtain ⟨Ds, m1, m2, m3⟩ := HM3.out
        have hlt3 : ∀ D' ∈ Ds, D' < WL.heap.size := fun D' hD' => (Array.getElem?_eq_some_iff.1 (m3 D' hD').2).1
        exact ⟨D :: Ds, List.nodup_cons.2 ⟨fun h => by have := hlt3 D h; omega, m1⟩, by simp [m2], fun D' hD' => by
          rcases List.mem_cons.1 hD' with rfl | h
          · exact ⟨Nat.le_trans HW3.out hD, hK⟩
          · exact ⟨(m3 _ h).1, hk.same D' _ (m3 _ h).1 (m3 _ h).2 rfl⟩⟩)
      clear hi hk hK HM3 HI3
      gi_wp2
      refine ⟨⟨k + 1, { target := .collected D, args := #[] } :: ds, ?_⟩, ?_⟩
      · (repeat apply Exists.intro)
        exact ⟨⟨⟨by omega⟩, HI4, HM4⟩, rfl⟩
      · simp [intOf]; omega
    case stop =>
      rintro D c pre W _ _ h _
      exact h.elim
  · obtain rfl : k = ls.length := by omega
    have d0 : decide ((ls.length : Int) < (ls.length : Int)) = false := by simp
    rw [List.take_length] at HI2
    obtain ⟨⟨b5, b6, b7, b8, b9⟩, hBw, hg9⟩ := HI2.out
    have c6 := b6.cell; have c7 := b7.cell; have c9 := b9.cell; have f6 := b6.frozen; have f7 := b7.frozen
    have H6 := Aside0.mk b6
    have H7 := Aside0.mk b7
    clear b5 b6 b7 b8 b9
    have HMs : ∀ (u v : Value), Mk w ds ((wr.setCell ⟨w.heap.size + 1, 0, none⟩ u).setCell ⟨w.heap.size + 1 + 1, 0, none⟩ v) := fun u v => by
      obtain ⟨Ds, m1, m2, m3⟩ := HM.out
      exact ⟨Ds, m1, m2, fun D hD => ⟨(m3 D hD).1, ((KeepsOthers.setCell _ _ _).trans (KeepsOthers.setCell _ _ _)).same D _ (m3 D hD).2 rfl⟩⟩
    have HBs : ∀ (u v : Value), Below w.heap.size w ((wr.setCell ⟨w.heap.size + 1, 0, none⟩ u).setCell ⟨w.heap.size + 1 + 1, 0, none⟩ v) := fun u v => below_set (below_set hBw (by omega)) (by omega)
    have HM6 := Aside0.mk HMs
    have HB6 := Aside0.mk HBs
    clear HMs HBs
    have HWN := Aside0.mk (show windN x y (allE ls) = if okAll x y (allE ls) = true then (if (allE ls).any (onE x y) = true then 0 else wsum x y (allE ls)) else 0 from rfl)
    have HWO := Aside0.mk (show windO x y (allE ls) = (okAll x y (allE ls) && (allE ls).any (onE x y)) from rfl)
    cases hok : okAll x y (allE ls) with
    | false =>
      rw [hok] at c9 HWN HWO
      gi_wp2
      refine wind_end w _ ds _ _ _ rfl rfl ?_ ?_ (HB6.out _ _) (HM6.out _ _)
      · rw [HWN.out]; exact (H6.out.set _).other (by omega) _
      · rw [HWO.out]; exact (H7.out.other (by omega) _).set _
    | true =>
      rw [hok] at c9 HWN HWO
      cases hon : (allE ls).any (onE x y) with
      | false =>
        rw [hon] at c7 HWN HWO
        gi_wp2
        gi_region_with_o (fail)
        all_goals
          change Exit.then _ _ Exit.normal _ (World.drew _)
          gi_wp2
          refine wind_end w _ ds _ _ _ rfl rfl ?_ ?_ (below_drew1 (HB6.out _ _)) (HM6.out _ _)
          · rw [HWN.out]; exact (H6.out.set _).other (by omega) _
          · rw [HWO.out]; exact (H7.out.other (by omega) _).set _
      | true =>
        rw [hon] at c7 HWN HWO
        gi_wp2
        gi_region_with_o (fail)
        all_goals
          change Exit.then _ _ Exit.normal _ (World.drew _)
          gi_wp2
          refine wind_end w _ ds _ _ _ rfl rfl ?_ ?_ (below_drew1 (below_set (below_set (below_set hBw (by omega)) (by omega)) (by omega))) ?_
          · rw [HWN.out]; exact ((H6.out.set _).set _).other (by omega) _
          · rw [HWO.out]; exact ((H7.out.other (by omega) _).other (by omega) _).set _
          · obtain ⟨Ds, m1, m2, m3⟩ := HM.out
            exact ⟨Ds, m1, m2, fun D hD => ⟨(m3 D hD).1, (((KeepsOthers.setCell _ _ _).trans (KeepsOthers.setCell _ _ _)).trans (KeepsOthers.setCell _ _ _)).same D _ (m3 D hD).2 rfl⟩⟩
end Go.Proofs.Ytpfgjagpaddcpaa.Own

/-! Which points are far; IndexFunc and ContainsFunc over it, of a ring. -/
namespace Go.Proofs.Ytpfgjagpaddcpaa.Own
open Go.RowKit Go.Proofs.YtpfgjagpaddcpaaW.PrintWords Go.Proofs.YtpfgjagpaddcpaaW.PrintLast Go.Proofs.YtpfgjagpaddcpaaW.PrintMore
open Go.Proofs.Ytpfgjagpaddcpaa.X
set_option linter.unusedVariables false
set_option linter.unusedSimpArgs false

def nearC (x y : Int) : Bool := decide (-67108864 ≤ x ∧ x ≤ 67108864 ∧ -67108864 ≤ y ∧ y ≤ 67108864)

theorem far_f (x y : Int) : input_far.f x y = some (!nearC x y) := by
  unfold input_far.f nearC
  by_cases h1 : x < -67108864 <;> by_cases h2 : x > 67108864 <;> by_cases h3 : y < -67108864 <;> by_cases h4 : y > 67108864 <;> simp [h1, h2, h3, h4] <;> omega

theorem far_any (x y : Int) (w : World) : Calls Try.prog 75 #[ptV x y] w fun e w' => e = .returned (.bool (!nearC x y)) ∧ Below w.heap.size w w' :=
  input_far.calls _ _ _ w (far_f x y)

def allNear (l : List S23) : Bool := l.all fun p => nearC p.f0 p.f1

theorem allNear_false (l : List S23) (x : Int) (h0 : 0 ≤ x) (hlt : x < l.length) (h : nearC (rd_T23 l x).f0 (rd_T23 l x).f1 = false) : allNear l = false := by
  unfold allNear
  rw [List.all_eq_false]
  have hn : x.toNat < l.length := by omega
  refine ⟨rd_T23 l x, ?_, by simp [h]⟩
  rw [show rd_T23 l x = l[x.toNat] by simp [rd_T23, List.getD, hn]]
  exact List.getElem_mem hn

theorem allNear_true (l : List S23) (h : ∀ j : Nat, (j : Int) < l.length → nearC (l.getD j z23).f0 (l.getD j z23).f1 = true) : allNear l = true := by
  unfold allNear
  rw [List.all_eq_true]
  intro p hp
  obtain ⟨j, hj, rfl⟩ := List.mem_iff_getElem.1 hp
  have := h j (by omega)
  simpa [List.getD, hj] using this

set_option maxHeartbeats 1000000 in
theorem indexF_any (A : Option Addr) (c : Nat) (l : List S23) (w : World) (hr : Kd.C k23 w A l.length l) (hc : l.length ≤ c) (hm : l.length ≤ 9223372036854775807) :
    Calls Try.prog 80 #[.slice A l.length c, .func (.func 75) #[] #[]] w fun e w' => (∃ r : Int, e = .returned (.int .i64 r) ∧ (0 ≤ r ↔ allNear l = false)) ∧ Below w.heap.size w w' := by
  have hu23 := Try.underlying23
  have HR := Aside0.mk hr
  clear hr
  go_enter Try.func80, Try.ntmps80
  go_wp2_with fail
  go_loopw [8] (fun i wr => ∃ x : Int, i = .int .i64 x ∧ Aside0 (0 ≤ x ∧ x ≤ l.length ∧ (∀ j : Nat, (j : Int) < x → nearC (l.getD j z23).f0 (l.getD j z23).f1 = true)) ∧ Aside0 (Below w.heap.size w wr)) (fun i _ => l.length - (intOf i).toNat)
  case atStart => exact ⟨0, rfl, ⟨by omega, by omega, fun j hj => by omega⟩, ⟨Below.refl _ _⟩⟩
  case round =>
    obtain ⟨x, rfl, HX, HB⟩ := hrel
    obtain ⟨h0, h1, h2⟩ := HX.out
    have HA := Aside0.mk h2
    clear HX h2
    by_cases hlt : x < (l.length : Int)
    · have c3b0 : decide (x < (l.length : Int)) = true := decide_eq_true hlt
      obtain ⟨ad, e1, hx0, hx1⟩ := at_T23 HR.out x h0 hlt
      cases e1
      replace hx0 := (HB.out.cell (World.block_lt_of_cell? w _ hx0)).trans hx0
      replace hx1 := (HB.out.cell (World.block_lt_of_cell? w _ hx1)).trans hx1
      have p1 := eq_true h0
      have p2 := eq_true hlt
      go_wp2_with fail
      refine (far_any _ _ _).mono ?_
      rintro e w1 ⟨rfl, hb1⟩
      by_cases hq : nearC (rd_T23 l x).f0 (rd_T23 l x).f1 = true
      · simp only [hq, Bool.not_true]
        have HQ := Aside0.mk hq
        clear hq
        go_wp2_with fail
        go_roundw
        case rel => 
          refine ⟨x + 1, by go_num, ⟨by omega, by omega, fun j hj => ?_⟩, ⟨HB.out.trans (hb1.mono HB.out.size)⟩⟩
          by_cases hj2 : (j : Int) < x
          · exact HA.out j hj2
          · have : j = x.toNat := by omega
            rw [this]
            exact HQ.out
        case measure => simp [intOf]; omega
      · have hq' : nearC (rd_T23 l x).f0 (rd_T23 l x).f1 = false := by simpa using hq
        simp only [hq', Bool.not_false]
        have HQ := Aside0.mk hq'
        clear hq hq'
        go_wp2_with fail
        go_ret
        exact ⟨⟨x, rfl, ⟨fun _ => allNear_false l x h0 hlt HQ.out, fun _ => h0⟩⟩, HB.out.trans (hb1.mono HB.out.size)⟩
    · have c3b0 : decide (x < (l.length : Int)) = false := decide_eq_false hlt
      go_wp2_with fail
      go_ret
      refine ⟨⟨-1, rfl, ⟨fun h => by omega, fun h => ?_⟩⟩, HB.out⟩
      rw [allNear_true l (fun j hj => HA.out j (by omega))] at h
      cases h

set_option maxHeartbeats 1000000 in
theorem containsF_any (A : Option Addr) (c : Nat) (l : List S23) (w : World) (hr : Kd.C k23 w A l.length l) (hc : l.length ≤ c) (hm : l.length ≤ 9223372036854775807) :
    Calls Try.prog 74 #[.slice A l.length c, .func (.func 75) #[] #[]] w fun e w' => e = .returned (.bool (!allNear l)) ∧ Below w.heap.size w w' := by
  go_enter Try.func74, Try.ntmps74
  go_wp2_with fail
  refine (indexF_any A c l _ hr hc hm).mono ?_
  rintro e w1 ⟨⟨r, rfl, hq⟩, hb⟩
  by_cases h : 0 ≤ r
  · have h2 := Aside0.mk (hq.1 h)
    have hd : decide (0 ≤ r) = true := decide_eq_true h
    clear hq h
    go_wp2_with fail
    go_ret
    exact ⟨by rw [h2.out]; rfl, hb⟩
  · have h2 := Aside0.mk (show allNear l = true by cases hx : allNear l with | true => rfl | false => exact absurd (hq.2 hx) h)
    have hd : decide (0 ≤ r) = false := decide_eq_false h
    clear hq h
    go_wp2_with fail
    go_ret
    exact ⟨by rw [h2.out]; rfl, hb⟩
end Go.Proofs.Ytpfgjagpaddcpaa.Own

/-! Why rings may not be. -/
namespace Go.Proofs.Ytpfgjagpaddcpaa.Own
open Go.RowKit Go.Proofs.YtpfgjagpaddcpaaW.PrintWords Go.Proofs.YtpfgjagpaddcpaaW.PrintLast Go.Proofs.YtpfgjagpaddcpaaW.PrintMore
open Go.Proofs.Ytpfgjagpaddcpaa.X
set_option linter.unusedVariables false
set_option linter.unusedSimpArgs false

def ringsB : List (List S23) → Int
  | [] => 0
  | r :: rs => if r.length < 3 then 114 else if allNear r = false then 115 else ringsB rs

theorem ringsB_drop (ls : List (List S23)) (k : Nat) (h : k < ls.length) : ringsB (ls.drop k) = if (ls.getD k []).length < 3 then 114 else if allNear (ls.getD k []) = false then 115 else ringsB (ls.drop (k + 1)) := by
  rw [List.drop_eq_getElem_cons h]
  simp only [ringsB, List.getD_eq_getElem?_getD, List.getElem?_eq_getElem h, Option.getD_some]

theorem rings_any (A : Option Addr) (c : Nat) (ls : List (List S23)) (w : World) (hr : Kd.C (Kd.slice 23 k23) w A ls.length ls) (hc : ls.length ≤ c) (hm : ls.length ≤ 9223372036854775807) (hm2 : ∀ r ∈ ls, r.length ≤ 9223372036854775807) :
    Calls Try.prog 63 #[.slice A ls.length c] w fun e w' => e = .returned (.int .i64 (ringsB ls)) ∧ Below w.heap.size w w' := by
  have HR := Aside0.mk hr
  clear hr
  go_enter Try.func63, Try.ntmps63
  go_wp2_with fail
  go_loopw [7] (fun i wr => ∃ x : Int, i = .int .i64 x ∧ Aside0 (0 ≤ x ∧ x ≤ ls.length ∧ ringsB ls = ringsB (ls.drop x.toNat)) ∧ Aside0 (Below w.heap.size w wr)) (fun i _ => ls.length - (intOf i).toNat)
  case atStart => exact ⟨0, rfl, ⟨by omega, by omega, rfl⟩, ⟨Below.refl _ _⟩⟩
  case round =>
    obtain ⟨x, rfl, HX, HB⟩ := hrel
    obtain ⟨h0, h1, h2⟩ := HX.out
    have HA := Aside0.mk h2
    clear HX h2
    by_cases hlt : x < (ls.length : Int)
    · have c3b0 : decide (x < (ls.length : Int)) = true := decide_eq_true hlt
      obtain ⟨ad, A0, c0, e1, hx0, hc0, hC0⟩ := at_L2 HR.out x h0 hlt
      cases e1
      replace hx0 := (HB.out.cell (World.block_lt_of_cell? w _ hx0)).trans hx0
      have hml := hm2 (rd_L2 ls x) (by
        unfold rd_L2
        rw [List.getD_eq_getElem?_getD, List.getElem?_eq_getElem (by omega)]
        exact List.getElem_mem _)
      have HD := Aside0.mk (show ringsB (ls.drop x.toNat) = if (rd_L2 ls x).length < 3 then 114 else if allNear (rd_L2 ls x) = false then 115 else ringsB (ls.drop (x.toNat + 1)) from ringsB_drop ls x.toNat (by omega))
      obtain ⟨r, hr⟩ : ∃ r, rd_L2 ls x = r := ⟨_, rfl⟩
      rw [hr] at hx0 hc0 hC0 hml HD
      have HCr := Aside0.mk (Kd.C_below hC0 HB.out)
      clear hC0 hr
      have p1 := eq_true h0
      have p2 := eq_true hlt
      by_cases h3 : (r.length : Int) < 3
      · have d3 : decide ((r.length : Int) < 3) = true := decide_eq_true h3
        have HE := Aside0.mk (show ringsB ls = 114 by rw [HA.out, HD.out, if_pos (by omega)])
        have h3' : r.length < 3 := by omega
        go_wp2_with fail
        go_ret
        exact ⟨by rw [HE.out]; rfl, HB.out⟩
      · have d3 : decide ((r.length : Int) < 3) = false := decide_eq_false h3
        have h3' : ¬ r.length < 3 := by omega
        go_wp2_with fail
        refine (containsF_any A0 c0 r _ HCr.out hc0 hml).mono ?_
        rintro e w1 ⟨rfl, hb1⟩
        cases hn : allNear r with
        | false =>
          have HE := Aside0.mk (show ringsB ls = 115 by rw [HA.out, HD.out, if_neg h3', if_pos hn])
          go_wp2_with fail
          go_ret
          exact ⟨by rw [HE.out]; rfl, HB.out.trans (hb1.mono HB.out.size)⟩
        | true =>
          have HE := Aside0.mk (show ringsB ls = ringsB (ls.drop (x.toNat + 1)) by rw [HA.out, HD.out, if_neg h3', if_neg (by rw [hn]; simp)])
          go_wp2_with fail
          go_roundw
          case rel => exact ⟨x + 1, by go_num, ⟨by omega, by omega, by rw [show (x + 1).toNat = x.toNat + 1 by omega]; exact HE.out⟩, ⟨HB.out.trans (hb1.mono HB.out.size)⟩⟩
          case measure => simp [intOf]; omega
    · have c3b0 : decide (x < (ls.length : Int)) = false := decide_eq_false hlt
      have HE := Aside0.mk (show ringsB ls = 0 by rw [HA.out, List.drop_eq_nil_of_le (by omega)]; rfl)
      go_wp2_with fail
      go_ret
      exact ⟨by rw [HE.out]; rfl, HB.out⟩
end Go.Proofs.Ytpfgjagpaddcpaa.Own
