import Derived.Test.YtpfgjagpaddcpaaBa2
import Derived.Test.YtpfgjagpaddcpaaProg
import Derived.Below
import Derived.Deep.Draws
import Derived.Deep.AppendLies
import Derived.Maps.AppendAt
import Derived.OwnWalk
import Derived.Laws.BytesArg
import Derived.Laws.MakeOwn
import Derived.Laws.OwnMore
import Derived.Deep.OwnRows
import Derived.Tactics
import Derived.Lib.ConvBytes
import Derived.Laws.Slices
import Derived.WalkKit
import Derived.KernelRfl
import Derived.RowKit3
import Derived.Deep.LoopGhost
import Derived.Deep.QuietTactic
import Derived.BigQuiet
import Derived.WideLaws
import Derived.Deep.DeepCutAuto
import Derived.Deep.CutBlock
import Derived.Deep.RegionHeld3
import Derived.Laws.Rows
import Derived.Lib.AppendStr
import Derived.ArgAppend
import Derived.Laws.IdiomCopy
import Derived.OrdersHeld
import Derived.Laws.BitsLemmas
import Derived.RowKit
import Derived.Test.YtpfgjagpaddcpaaWWords
import Derived.Test.YtpfgjagpaddcpaaWLast
import Derived.Test.YtpfgjagpaddcpaaWTab
import Derived.Test.YtpfgjagpaddcpaaWFour
import Derived.Test.YtpfgjagpaddcpaaWQPut
import Derived.Test.YtpfgjagpaddcpaaWApart
import Derived.Test.YtpfgjagpaddcpaaWArr
import Derived.Test.YtpfgjagpaddcpaaWZeros
import Derived.Test.YtpfgjagpaddcpaaWFoot
import Derived.Test.YtpfgjagpaddcpaaWKept
import Derived.Test.YtpfgjagpaddcpaaWShare
import Derived.Test.YtpfgjagpaddcpaaWN
import Derived.Test.YtpfgjagpaddcpaaWFootNe
import Derived.Test.YtpfgjagpaddcpaaWAt
import Derived.Test.YtpfgjagpaddcpaaWEqStruct
import Derived.Test.YtpfgjagpaddcpaaWRepsOne
import Derived.Test.YtpfgjagpaddcpaaWInv
import Derived.Test.YtpfgjagpaddcpaaWInvWords
import Derived.Test.YtpfgjagpaddcpaaWGuard
import Derived.Test.YtpfgjagpaddcpaaWNEv
import Derived.Test.YtpfgjagpaddcpaaWMore
/-! Texts that this law leans on, put together by a program of this session: X0 X11. -/
-- Printed by the kit's print.py for this seat (all laws in one set), called by this session.
namespace Go.Proofs.Ytpfgjagpaddcpaa.X
open Go.RowKit Go.Proofs.YtpfgjagpaddcpaaW.PrintWords Go.Proofs.YtpfgjagpaddcpaaW.PrintLast Go.Proofs.YtpfgjagpaddcpaaW.PrintMore
attribute [local go_sem] max2_int min2_int max_two min_two max_three min_three max_four min_four
set_option linter.unusedVariables false
set_option linter.unusedSimpArgs false



theorem info47 : (Try.prog.info? 47).map (fun i => (i.zero, i.size, i.bytes)) = some (some (.slice none 0 0), 1, 24) := by kernel_rfl
-- the values' own types
/-! #### struct type 23 -/
/-! #### struct type 68 -/
end Go.Proofs.Ytpfgjagpaddcpaa.X

-- Printed by the kit's print.py for this seat (all laws in one set), called by this session.
namespace Go.Proofs.Ytpfgjagpaddcpaa.X
open Go.RowKit Go.Proofs.YtpfgjagpaddcpaaW.PrintWords Go.Proofs.YtpfgjagpaddcpaaW.PrintLast Go.Proofs.YtpfgjagpaddcpaaW.PrintMore
attribute [local go_sem] max2_int min2_int max_two min_two max_three min_three max_four min_four
set_option linter.unusedVariables false
set_option linter.unusedSimpArgs false

attribute [local go_sem high] eqA23
/-! ### cobwebref11_Same: function 51 -/
mutual
def cobwebref11_Same.j0 : Nat → Bool → List (List (S23)) → List (List (S23)) → Int → Int → Int → Int → List (List (S23)) → List (List (S23)) → Int → Int → Int → Int → Option (Bool)
  | 0, _, _, _, _, _, _, _, _, _, _, _, _, _ => none
  | k + 1, x52, x290000, x290001, x290002, x290003, x290004, x290005, x291000, x291001, x291002, x291003, x291004, x291005 => if x52 = true then (some false) else ((some (([] : List (List (S23))) : List (List (S23)))).bind fun y291 => (if y291.length + x290000.length < 5864062014805 then ((some (y291 ++ x290000 : List (List (S23)))).bind fun y294 => (if y294.length + x290001.length < 5864062014805 then ((some (([] : List (List (S23))) : List (List (S23)))).bind fun y300 => (if y300.length + x291000.length < 5864062014805 then ((some (y300 ++ x291000 : List (List (S23)))).bind fun y303 => (if y303.length + x291001.length < 5864062014805 then (cobwebref11_Same.l0 k (y294 ++ x290001) (y303 ++ x291001) 0) else (none))) else (none))) else (none))) else (none)))
def cobwebref11_Same.l0 : Nat → List (List (S23)) → List (List (S23)) → Int → Option (Bool)
  | 0, _, _, _ => none
  | k + 1, x5, x6, x7 => if x7 < (x5.length : Int) then (if 0 ≤ x7 then (if x7 < (x6.length : Int) then (if ((rd_L2 x5 x7).length : Int) = ((rd_L2 x6 x7).length : Int) then (cobwebref11_Same.l1 k x5 x6 x7 0) else (some false)) else (none)) else (none)) else (some true)
def cobwebref11_Same.l1 : Nat → List (List (S23)) → List (List (S23)) → Int → Int → Option (Bool)
  | 0, _, _, _, _ => none
  | k + 1, x5, x6, x7, x8 => if 0 ≤ x7 then (if x7 < (x5.length : Int) then (if x8 < ((rd_L2 x5 x7).length : Int) then (if 0 ≤ x8 then (if x7 < (x6.length : Int) then (if x8 < ((rd_L2 x6 x7).length : Int) then (if (!(((rd_T23 (rd_L2 x5 x7) x8).f0) == ((rd_T23 (rd_L2 x6 x7) x8).f0)) || (!(((rd_T23 (rd_L2 x5 x7) x8).f1) == ((rd_T23 (rd_L2 x6 x7) x8).f1)))) = true then (some false) else (cobwebref11_Same.l1 k x5 x6 x7 (wrap64 (x8 + 1)))) else (none)) else (none)) else (none)) else (cobwebref11_Same.l0 k x5 x6 (wrap64 (x7 + 1)))) else (none)) else (none)
end
def cobwebref11_Same.f (k : Nat) (l0_0 : List (List (S23))) (l0_1 : List (List (S23))) (a0_2 : Int) (a0_3 : Int) (a0_4 : Int) (a0_5 : Int) (l1_0 : List (List (S23))) (l1_1 : List (List (S23))) (a1_2 : Int) (a1_3 : Int) (a1_4 : Int) (a1_5 : Int) : Option (Bool) := if a0_2 = a1_2 then (if a0_3 = a1_3 then (if a0_4 = a1_4 then (if a0_5 = a1_5 then (if (l0_0.length : Int) = (l1_0.length : Int) then (cobwebref11_Same.j0 k ((l0_1.length : Int) != (l1_1.length : Int)) l0_0 l0_1 a0_2 a0_3 a0_4 a0_5 l1_0 l1_1 a1_2 a1_3 a1_4 a1_5) else (cobwebref11_Same.j0 k true l0_0 l0_1 a0_2 a0_3 a0_4 a0_5 l1_0 l1_1 a1_2 a1_3 a1_4 a1_5)) else (cobwebref11_Same.j0 k true l0_0 l0_1 a0_2 a0_3 a0_4 a0_5 l1_0 l1_1 a1_2 a1_3 a1_4 a1_5)) else (cobwebref11_Same.j0 k true l0_0 l0_1 a0_2 a0_3 a0_4 a0_5 l1_0 l1_1 a1_2 a1_3 a1_4 a1_5)) else (cobwebref11_Same.j0 k true l0_0 l0_1 a0_2 a0_3 a0_4 a0_5 l1_0 l1_1 a1_2 a1_3 a1_4 a1_5)) else (cobwebref11_Same.j0 k true l0_0 l0_1 a0_2 a0_3 a0_4 a0_5 l1_0 l1_1 a1_2 a1_3 a1_4 a1_5)
def cobwebref11_Same.T3 : Bool × List (List Nat × List Nat) := (true, [([], []), ([], []), ([1], [1]), ([0, 2], [0, 2]), ([], []), ([4], [4]), ([3, 5, 3], [3, 5]), ([6, 6, 0, 1, 2, 3, 4, 5, 6], [6])])
def cobwebref11_Same.B3 : List Nat := [0, 0, 2, 7, 0, 16, 63, 127]
theorem cobwebref11_Same.tab3 : rtab .any (opsOf Try.f51 3) = cobwebref11_Same.T3 := by kernel_rfl
theorem cobwebref11_Same.bits3 : waitsOk cobwebref11_Same.T3.2 cobwebref11_Same.B3 = true := by kernel_rfl
def cobwebref11_Same.T4 : Bool × List (List Nat × List Nat) := (true, [([], []), ([], []), ([1], [1]), ([0, 2], [0, 2]), ([], []), ([4], [4]), ([3, 5, 3], [3, 5]), ([6, 6, 0, 1, 2, 3, 4, 5, 6], [6])])
def cobwebref11_Same.B4 : List Nat := [0, 0, 2, 7, 0, 16, 63, 127]
theorem cobwebref11_Same.tab4 : rtab .any (opsOf Try.f51 4) = cobwebref11_Same.T4 := by kernel_rfl
theorem cobwebref11_Same.bits4 : waitsOk cobwebref11_Same.T4.2 cobwebref11_Same.B4 = true := by kernel_rfl
def cobwebref11_Same.T8 : Bool × List (List Nat × List Nat) := (true, [([], []), ([], []), ([0, 1], [0, 1]), ([2], [2]), ([3], [3]), ([], []), ([], []), ([5, 6], [5, 6]), ([7], [7]), ([8], [8]), ([4, 9], [4, 9])])
def cobwebref11_Same.B8 : List Nat := [0, 0, 3, 7, 15, 0, 0, 96, 224, 480, 1023]
theorem cobwebref11_Same.tab8 : rtab .any (opsOf Try.f51 8) = cobwebref11_Same.T8 := by kernel_rfl
theorem cobwebref11_Same.bits8 : waitsOk cobwebref11_Same.T8.2 cobwebref11_Same.B8 = true := by kernel_rfl
def cobwebref11_Same.T13 : Bool × List (List Nat × List Nat) := (true, [([], []), ([], []), ([0, 1], [0, 1]), ([2], [2]), ([], []), ([3, 4], [3, 4]), ([5], [5]), ([], []), ([], []), ([7, 8], [7, 8]), ([9], [9]), ([], []), ([10, 11], [10, 11]), ([12], [12]), ([6, 13], [6, 13])])
def cobwebref11_Same.B13 : List Nat := [0, 0, 3, 7, 0, 31, 63, 0, 0, 384, 896, 0, 3968, 8064, 16383]
theorem cobwebref11_Same.tab13 : rtab .any (opsOf Try.f51 13) = cobwebref11_Same.T13 := by kernel_rfl
theorem cobwebref11_Same.bits13 : waitsOk cobwebref11_Same.T13.2 cobwebref11_Same.B13 = true := by kernel_rfl
set_option maxHeartbeats 8000000 in
set_option maxRecDepth 100000 in
theorem cobwebref11_Same.calls (k : Nat) (P0_0_ : Nat → Prop) (A0_0 : Option Addr) (c0_0 : Nat) (l0_0 : List (List (S23))) (P0_1_ : Nat → Prop) (A0_1 : Option Addr) (c0_1 : Nat) (l0_1 : List (List (S23))) (a0_2 : Int) (a0_3 : Int) (a0_4 : Int) (a0_5 : Int) (P1_0_ : Nat → Prop) (A1_0 : Option Addr) (c1_0 : Nat) (l1_0 : List (List (S23))) (P1_1_ : Nat → Prop) (A1_1 : Option Addr) (c1_1 : Nat) (l1_1 : List (List (S23))) (a1_2 : Int) (a1_3 : Int) (a1_4 : Int) (a1_5 : Int) (r : Bool) (w : World) (hs0_0 : Kd.V (Kd.slice 23 k23) 47 w w.heap.size (fun k_ => P0_0_ k_) (.slice A0_0 l0_0.length c0_0) l0_0) (hs0_1 : Kd.V (Kd.slice 23 k23) 47 w w.heap.size (fun k_ => P0_1_ k_) (.slice A0_1 l0_1.length c0_1) l0_1) (hs1_0 : Kd.V (Kd.slice 23 k23) 47 w w.heap.size (fun k_ => P1_0_ k_) (.slice A1_0 l1_0.length c1_0) l1_0) (hs1_1 : Kd.V (Kd.slice 23 k23) 47 w w.heap.size (fun k_ => P1_1_ k_) (.slice A1_1 l1_1.length c1_1) l1_1) (h : cobwebref11_Same.f k l0_0 l0_1 a0_2 a0_3 a0_4 a0_5 l1_0 l1_1 a1_2 a1_3 a1_4 a1_5 = some r) :
    Calls Try.prog 51 #[.agg #[.slice A0_0 l0_0.length c0_0, .slice A0_1 l0_1.length c0_1, .int .i64 a0_2, .int .i64 a0_3, .int .i64 a0_4, .int .i64 a0_5], .agg #[.slice A1_0 l1_0.length c1_0, .slice A1_1 l1_1.length c1_1, .int .i64 a1_2, .int .i64 a1_3, .int .i64 a1_4, .int .i64 a1_5]] w fun e w' => e = .returned (.bool r) ∧ Below w.heap.size w w' := by
  have hu37 := Try.underlying37
  have hu23 := Try.underlying23
  have HO0_0 := Aside0.mk (show Kd.V (Kd.slice 23 k23) 47 w w.heap.size (fun k_ => ((P0_0_ k_ ∨ P0_1_ k_ ∨ P1_0_ k_ ∨ P1_1_ k_) ∨ w.heap.size ≤ k_)) (.slice A0_0 l0_0.length c0_0) l0_0 from Kd.V_mono hs0_0 (fun k_ hk => .inl (.inl hk)))
  have HO0_1 := Aside0.mk (show Kd.V (Kd.slice 23 k23) 47 w w.heap.size (fun k_ => ((P0_0_ k_ ∨ P0_1_ k_ ∨ P1_0_ k_ ∨ P1_1_ k_) ∨ w.heap.size ≤ k_)) (.slice A0_1 l0_1.length c0_1) l0_1 from Kd.V_mono hs0_1 (fun k_ hk => .inl (.inr (.inl hk))))
  have HO1_0 := Aside0.mk (show Kd.V (Kd.slice 23 k23) 47 w w.heap.size (fun k_ => ((P0_0_ k_ ∨ P0_1_ k_ ∨ P1_0_ k_ ∨ P1_1_ k_) ∨ w.heap.size ≤ k_)) (.slice A1_0 l1_0.length c1_0) l1_0 from Kd.V_mono hs1_0 (fun k_ hk => .inl (.inr (.inr (.inl hk)))))
  have HO1_1 := Aside0.mk (show Kd.V (Kd.slice 23 k23) 47 w w.heap.size (fun k_ => ((P0_0_ k_ ∨ P0_1_ k_ ∨ P1_0_ k_ ∨ P1_1_ k_) ∨ w.heap.size ≤ k_)) (.slice A1_1 l1_1.length c1_1) l1_1 from Kd.V_mono hs1_1 (fun k_ hk => .inl (.inr (.inr (.inr hk)))))
  have HB := Aside0.mk (Below.refl w.heap.size w)
  have H : (if a0_2 = a1_2 then (if a0_3 = a1_3 then (if a0_4 = a1_4 then (if a0_5 = a1_5 then (if (l0_0.length : Int) = (l1_0.length : Int) then (cobwebref11_Same.j0 k ((l0_1.length : Int) != (l1_1.length : Int)) l0_0 l0_1 a0_2 a0_3 a0_4 a0_5 l1_0 l1_1 a1_2 a1_3 a1_4 a1_5) else (cobwebref11_Same.j0 k true l0_0 l0_1 a0_2 a0_3 a0_4 a0_5 l1_0 l1_1 a1_2 a1_3 a1_4 a1_5)) else (cobwebref11_Same.j0 k true l0_0 l0_1 a0_2 a0_3 a0_4 a0_5 l1_0 l1_1 a1_2 a1_3 a1_4 a1_5)) else (cobwebref11_Same.j0 k true l0_0 l0_1 a0_2 a0_3 a0_4 a0_5 l1_0 l1_1 a1_2 a1_3 a1_4 a1_5)) else (cobwebref11_Same.j0 k true l0_0 l0_1 a0_2 a0_3 a0_4 a0_5 l1_0 l1_1 a1_2 a1_3 a1_4 a1_5)) else (cobwebref11_Same.j0 k true l0_0 l0_1 a0_2 a0_3 a0_4 a0_5 l1_0 l1_1 a1_2 a1_3 a1_4 a1_5)) = some r := h
  clear h
  have HC3 := Aside0.mk H
  clear H
  go_enter Try.func51, Try.ntmps51
  go_upto_region 1 with (first | ((with_reducible refine gate_dst (N := 2) rfl ?_); (try (refine gate_guard (by rfl) ?_; dsimp only)); refine box_event ?hg (N := 2) ?hd (cs := #[.slice A0_0 l0_0.length c0_0, .slice A0_1 l0_1.length c0_1, .int .i64 a0_2, .int .i64 a0_3, .int .i64 a0_4, .int .i64 a0_5]) (t := 37) ?hr ?_; (case hd => rfl); (case hg => rfl); (case hr => first | (go_simp; done) | (go_simp; rfl)); intro gb289 hg w4 hbox hb; have n0_ := Aside0.mk (Kd.V_below (Kd.V_elderB (by (with_reducible repeat (first | apply Kd.V_alloc | apply Kd.V_drewN | apply Kd.V_drew)); exact HO0_0.out) gb289 (Nat.le_of_eq hg.symm)) hb); have n1_ := Aside0.mk (Kd.V_below (Kd.V_elderB (by (with_reducible repeat (first | apply Kd.V_alloc | apply Kd.V_drewN | apply Kd.V_drew)); exact HO0_1.out) gb289 (Nat.le_of_eq hg.symm)) hb); have n2_ := Aside0.mk (Kd.V_below (Kd.V_elderB (by (with_reducible repeat (first | apply Kd.V_alloc | apply Kd.V_drewN | apply Kd.V_drew)); exact HO1_0.out) gb289 (Nat.le_of_eq hg.symm)) hb); have n3_ := Aside0.mk (Kd.V_below (Kd.V_elderB (by (with_reducible repeat (first | apply Kd.V_alloc | apply Kd.V_drewN | apply Kd.V_drew)); exact HO1_1.out) gb289 (Nat.le_of_eq hg.symm)) hb); have n4_ := Aside0.mk (below_step (by repeat (first | (with_reducible first | exact HB.out | apply below_alloc | apply pw_below_drewN | apply below_drew1) | exact HB.out)) hb); have n5_ := Aside0.mk (hbox); have n6_ := Aside0.mk ((by rw [hg]; exact (below_size (by repeat (first | (with_reducible first | exact HB.out | apply below_alloc | apply pw_below_drewN | apply below_drew1) | exact HB.out))) : w.heap.size ≤ gb289)); have n7_ := Aside0.mk ((by rw [hg]; exact (below_size (by repeat (first | (with_reducible first | exact HB.out | apply below_alloc | apply pw_below_drewN | apply below_drew1) | exact HB.out))) : w.heap.size ≤ gb289)); clear HO0_0; clear HO0_1; clear HO1_0; clear HO1_1; clear HB; have HO0_0 := n0_; have HO0_1 := n1_; have HO1_0 := n2_; have HO1_1 := n3_; have HB := n4_; have BK289 := n5_; have GW289 := n6_; have GE289 := n7_; clear n0_ n1_ n2_ n3_ n4_ n5_ n6_ n7_; clear hb hbox hg) | ((with_reducible refine gate_dst (N := 3) rfl ?_); (try (refine gate_guard (by rfl) ?_; dsimp only)); refine box_event ?hg (N := 3) ?hd (cs := #[.slice A1_0 l1_0.length c1_0, .slice A1_1 l1_1.length c1_1, .int .i64 a1_2, .int .i64 a1_3, .int .i64 a1_4, .int .i64 a1_5]) (t := 37) ?hr ?_; (case hd => rfl); (case hg => rfl); (case hr => first | (go_simp; done) | (go_simp; rfl)); intro gb290 hg w5 hbox hb; have n0_ := Aside0.mk (Kd.V_below (Kd.V_elderB (by (with_reducible repeat (first | apply Kd.V_alloc | apply Kd.V_drewN | apply Kd.V_drew)); exact HO0_0.out) gb290 (Nat.le_of_eq hg.symm)) hb); have n1_ := Aside0.mk (Kd.V_below (Kd.V_elderB (by (with_reducible repeat (first | apply Kd.V_alloc | apply Kd.V_drewN | apply Kd.V_drew)); exact HO0_1.out) gb290 (Nat.le_of_eq hg.symm)) hb); have n2_ := Aside0.mk (Kd.V_below (Kd.V_elderB (by (with_reducible repeat (first | apply Kd.V_alloc | apply Kd.V_drewN | apply Kd.V_drew)); exact HO1_0.out) gb290 (Nat.le_of_eq hg.symm)) hb); have n3_ := Aside0.mk (Kd.V_below (Kd.V_elderB (by (with_reducible repeat (first | apply Kd.V_alloc | apply Kd.V_drewN | apply Kd.V_drew)); exact HO1_1.out) gb290 (Nat.le_of_eq hg.symm)) hb); have n4_ := Aside0.mk (blk_below (g := gb289) (o := .cells #[.slice A0_0 l0_0.length c0_0, .slice A0_1 l0_1.length c0_1, .int .i64 a0_2, .int .i64 a0_3, .int .i64 a0_4, .int .i64 a0_5] 37 (0, 0)) (by (with_reducible repeat (first | refine blk_drewN ?_ _ | refine blk_drew ?_ | refine blk_alloc ?_ _)); exact BK289.out) hb); have n5_ := Aside0.mk (below_step (by repeat (first | (with_reducible first | exact HB.out | apply below_alloc | apply pw_below_drewN | apply below_drew1 | refine below_set ?_ GE289.out) | exact HB.out)) hb); have n6_ := Aside0.mk (hbox); have n7_ := Aside0.mk ((by rw [hg]; exact (below_size (by repeat (first | (with_reducible first | exact HB.out | apply below_alloc | apply pw_below_drewN | apply below_drew1 | refine below_set ?_ GE289.out) | exact HB.out))) : w.heap.size ≤ gb290)); have n8_ := Aside0.mk ((by rw [hg]; exact (below_size (by repeat (first | (with_reducible first | exact HB.out | apply below_alloc | apply pw_below_drewN | apply below_drew1 | refine below_set ?_ GE289.out) | exact HB.out))) : w.heap.size ≤ gb290)); have n9_ := Aside0.mk ((by rw [hg]; exact Nat.ne_of_lt (blk_lt (g := gb289) (o := .cells #[.slice A0_0 l0_0.length c0_0, .slice A0_1 l0_1.length c0_1, .int .i64 a0_2, .int .i64 a0_3, .int .i64 a0_4, .int .i64 a0_5] 37 (0, 0)) (by (with_reducible repeat (first | refine blk_drewN ?_ _ | refine blk_drew ?_ | refine blk_alloc ?_ _)); exact BK289.out)) : gb289 ≠ gb290)); have n10_ := Aside0.mk ((by rw [hg]; exact Nat.ne_of_gt (blk_lt (g := gb289) (o := .cells #[.slice A0_0 l0_0.length c0_0, .slice A0_1 l0_1.length c0_1, .int .i64 a0_2, .int .i64 a0_3, .int .i64 a0_4, .int .i64 a0_5] 37 (0, 0)) (by (with_reducible repeat (first | refine blk_drewN ?_ _ | refine blk_drew ?_ | refine blk_alloc ?_ _)); exact BK289.out)) : gb290 ≠ gb289)); clear HO0_0; clear HO0_1; clear HO1_0; clear HO1_1; clear BK289; clear HB; have HO0_0 := n0_; have HO0_1 := n1_; have HO1_0 := n2_; have HO1_1 := n3_; have BK289 := n4_; have HB := n5_; have BK290 := n6_; have GW290 := n7_; have GE290 := n8_; have NB289_290 := n9_; have NB290_289 := n10_; clear n0_ n1_ n2_ n3_ n4_ n5_ n6_ n7_ n8_ n9_ n10_; clear hb hbox hg))
  (try simp only [Act.put, List.setIfInBounds_toArray, List.set_cons_zero, List.set_cons_succ])
  go_cut [52] (fun v52 wc => ∃ (kq : Nat) (x52_2 : Bool), v52 = .bool x52_2 ∧ Aside0 (cobwebref11_Same.j0 kq x52_2 l0_0 l0_1 a0_2 a0_3 a0_4 a0_5 l1_0 l1_1 a1_2 a1_3 a1_4 a1_5 = some r) ∧ Aside0 (kq ≤ k) ∧ Aside0 (Kd.V (Kd.slice 23 k23) 47 wc w.heap.size (fun k_ => ((P0_0_ k_ ∨ P0_1_ k_ ∨ P1_0_ k_ ∨ P1_1_ k_) ∨ w.heap.size ≤ k_) ∧ k_ ≠ gb289 ∧ k_ ≠ gb290) (.slice A0_0 l0_0.length c0_0) l0_0) ∧ Aside0 (Kd.V (Kd.slice 23 k23) 47 wc w.heap.size (fun k_ => ((P0_0_ k_ ∨ P0_1_ k_ ∨ P1_0_ k_ ∨ P1_1_ k_) ∨ w.heap.size ≤ k_) ∧ k_ ≠ gb289 ∧ k_ ≠ gb290) (.slice A0_1 l0_1.length c0_1) l0_1) ∧ Aside0 (Kd.V (Kd.slice 23 k23) 47 wc w.heap.size (fun k_ => ((P0_0_ k_ ∨ P0_1_ k_ ∨ P1_0_ k_ ∨ P1_1_ k_) ∨ w.heap.size ≤ k_) ∧ k_ ≠ gb289 ∧ k_ ≠ gb290) (.slice A1_0 l1_0.length c1_0) l1_0) ∧ Aside0 (Kd.V (Kd.slice 23 k23) 47 wc w.heap.size (fun k_ => ((P0_0_ k_ ∨ P0_1_ k_ ∨ P1_0_ k_ ∨ P1_1_ k_) ∨ w.heap.size ≤ k_) ∧ k_ ≠ gb289 ∧ k_ ≠ gb290) (.slice A1_1 l1_1.length c1_1) l1_1) ∧ Aside0 (wc.heap[gb289]? = some (.cells #[(.slice A0_0 l0_0.length c0_0), (.slice A0_1 l0_1.length c0_1), .int .i64 a0_2, .int .i64 a0_3, .int .i64 a0_4, .int .i64 a0_5] 37 (0, 0))) ∧ Aside0 (wc.heap[gb290]? = some (.cells #[(.slice A1_0 l1_0.length c1_0), (.slice A1_1 l1_1.length c1_1), .int .i64 a1_2, .int .i64 a1_3, .int .i64 a1_4, .int .i64 a1_5] 37 (0, 0))) ∧ Aside0 (Below w.heap.size w wc))
  case first =>
    have H := HC3.out
    clear HC3
    by_cases c6 : a0_2 = a1_2
    · rw [if_pos c6] at H
      have c6b0 : (a0_2 == a1_2) = true := beq_iff_eq.mpr c6
      have c6b1 : (a0_2 != a1_2) = false := bne_eq_false_iff_eq.mpr c6
      clear c6
      (first | rw [c6b0] | (simp only [i64_w, i32_w]; rw [c6b0]) | skip)
      by_cases c7 : a0_3 = a1_3
      · rw [if_pos c7] at H
        have c7b0 : (a0_3 == a1_3) = true := beq_iff_eq.mpr c7
        have c7b1 : (a0_3 != a1_3) = false := bne_eq_false_iff_eq.mpr c7
        clear c7
        by_cases c8 : a0_4 = a1_4
        · rw [if_pos c8] at H
          have c8b0 : (a0_4 == a1_4) = true := beq_iff_eq.mpr c8
          have c8b1 : (a0_4 != a1_4) = false := bne_eq_false_iff_eq.mpr c8
          clear c8
          by_cases c9 : a0_5 = a1_5
          · rw [if_pos c9] at H
            have c9b0 : (a0_5 == a1_5) = true := beq_iff_eq.mpr c9
            have c9b1 : (a0_5 != a1_5) = false := bne_eq_false_iff_eq.mpr c9
            clear c9
            by_cases c10 : (l0_0.length : Int) = (l1_0.length : Int)
            · rw [if_pos c10] at H
              have c10b0 : ((l0_0.length : Int) == (l1_0.length : Int)) = true := beq_iff_eq.mpr c10
              have c10b1 : ((l0_0.length : Int) != (l1_0.length : Int)) = false := bne_eq_false_iff_eq.mpr c10
              have c10b2 : (l0_0.length == l1_0.length) = true := by first | simpa using c10 | (simp at c10 ⊢; omega)
              clear c10
              have H' := Aside0.mk H
              clear H
              have hnb11 := NB289_290.out
              have hnc11 := NB290_289.out
              have hcz12_0 : w5.cell? ⟨gb289, 0, none⟩ = some (.slice A0_0 l0_0.length c0_0) := (blk_cell BK289.out 0).trans rfl
              have hcz12_1 : w5.cell? ⟨gb289, 1, none⟩ = some (.slice A0_1 l0_1.length c0_1) := (blk_cell BK289.out 1).trans rfl
              have hcz12_2 : w5.cell? ⟨gb289, 2, none⟩ = some (.int .i64 a0_2) := (blk_cell BK289.out 2).trans rfl
              have hcz12_3 : w5.cell? ⟨gb289, 3, none⟩ = some (.int .i64 a0_3) := (blk_cell BK289.out 3).trans rfl
              have hcz12_4 : w5.cell? ⟨gb289, 4, none⟩ = some (.int .i64 a0_4) := (blk_cell BK289.out 4).trans rfl
              have hcz12_5 : w5.cell? ⟨gb289, 5, none⟩ = some (.int .i64 a0_5) := (blk_cell BK289.out 5).trans rfl
              have hfz12_0 := blk_frozen BK289.out 0
              have hfz12_1 := blk_frozen BK289.out 1
              have hfz12_2 := blk_frozen BK289.out 2
              have hfz12_3 := blk_frozen BK289.out 3
              have hfz12_4 := blk_frozen BK289.out 4
              have hfz12_5 := blk_frozen BK289.out 5
              have hcz13_0 : w5.cell? ⟨gb290, 0, none⟩ = some (.slice A1_0 l1_0.length c1_0) := (blk_cell BK290.out 0).trans rfl
              have hcz13_1 : w5.cell? ⟨gb290, 1, none⟩ = some (.slice A1_1 l1_1.length c1_1) := (blk_cell BK290.out 1).trans rfl
              have hcz13_2 : w5.cell? ⟨gb290, 2, none⟩ = some (.int .i64 a1_2) := (blk_cell BK290.out 2).trans rfl
              have hcz13_3 : w5.cell? ⟨gb290, 3, none⟩ = some (.int .i64 a1_3) := (blk_cell BK290.out 3).trans rfl
              have hcz13_4 : w5.cell? ⟨gb290, 4, none⟩ = some (.int .i64 a1_4) := (blk_cell BK290.out 4).trans rfl
              have hcz13_5 : w5.cell? ⟨gb290, 5, none⟩ = some (.int .i64 a1_5) := (blk_cell BK290.out 5).trans rfl
              have hfz13_0 := blk_frozen BK290.out 0
              have hfz13_1 := blk_frozen BK290.out 1
              have hfz13_2 := blk_frozen BK290.out 2
              have hfz13_3 := blk_frozen BK290.out 3
              have hfz13_4 := blk_frozen BK290.out 4
              have hfz13_5 := blk_frozen BK290.out 5
              go_wp2
              go_meet
              case rel => exact ⟨_, (((l0_1.length : Int) != (l1_1.length : Int))), (by first | rfl | (simp; done) | (simp [*]; done)), H', ⟨by first | omega | exact Nat.le_refl _⟩, ⟨by (with_reducible repeat (first | apply Kd.V_alloc | apply Kd.V_drewN | apply Kd.V_drew)); exact Kd.V_mono HO0_0.out (fun _ hk => ⟨hk.1.1, ⟨hk.1.2, hk.2⟩⟩)⟩, ⟨by (with_reducible repeat (first | apply Kd.V_alloc | apply Kd.V_drewN | apply Kd.V_drew)); exact Kd.V_mono HO0_1.out (fun _ hk => ⟨hk.1.1, ⟨hk.1.2, hk.2⟩⟩)⟩, ⟨by (with_reducible repeat (first | apply Kd.V_alloc | apply Kd.V_drewN | apply Kd.V_drew)); exact Kd.V_mono HO1_0.out (fun _ hk => ⟨hk.1.1, ⟨hk.1.2, hk.2⟩⟩)⟩, ⟨by (with_reducible repeat (first | apply Kd.V_alloc | apply Kd.V_drewN | apply Kd.V_drew)); exact Kd.V_mono HO1_1.out (fun _ hk => ⟨hk.1.1, ⟨hk.1.2, hk.2⟩⟩)⟩, ⟨by (with_reducible repeat (first | refine blk_drewN ?_ _ | refine blk_drew ?_ | refine blk_alloc ?_ _)); exact BK289.out⟩, ⟨by (with_reducible repeat (first | refine blk_drewN ?_ _ | refine blk_drew ?_ | refine blk_alloc ?_ _)); exact BK290.out⟩, ⟨by repeat (first | (with_reducible first | exact HB.out | apply below_alloc | apply pw_below_drewN | apply below_drew1 | refine below_set ?_ GE289.out | refine below_set ?_ GE290.out) | exact HB.out)⟩⟩
            · rw [if_neg c10] at H
              have c10b0 : ((l0_0.length : Int) == (l1_0.length : Int)) = false := beq_eq_false_iff_ne.mpr c10
              have c10b1 : ((l0_0.length : Int) != (l1_0.length : Int)) = true := bne_iff_ne.mpr c10
              have c10b2 : (l0_0.length == l1_0.length) = false := by first | simpa using c10 | (simp at c10 ⊢; omega)
              have H' := Aside0.mk H
              clear H
              have hnb14 := NB289_290.out
              have hnc14 := NB290_289.out
              have hcz15_0 : w5.cell? ⟨gb289, 0, none⟩ = some (.slice A0_0 l0_0.length c0_0) := (blk_cell BK289.out 0).trans rfl
              have hcz15_1 : w5.cell? ⟨gb289, 1, none⟩ = some (.slice A0_1 l0_1.length c0_1) := (blk_cell BK289.out 1).trans rfl
              have hcz15_2 : w5.cell? ⟨gb289, 2, none⟩ = some (.int .i64 a0_2) := (blk_cell BK289.out 2).trans rfl
              have hcz15_3 : w5.cell? ⟨gb289, 3, none⟩ = some (.int .i64 a0_3) := (blk_cell BK289.out 3).trans rfl
              have hcz15_4 : w5.cell? ⟨gb289, 4, none⟩ = some (.int .i64 a0_4) := (blk_cell BK289.out 4).trans rfl
              have hcz15_5 : w5.cell? ⟨gb289, 5, none⟩ = some (.int .i64 a0_5) := (blk_cell BK289.out 5).trans rfl
              have hfz15_0 := blk_frozen BK289.out 0
              have hfz15_1 := blk_frozen BK289.out 1
              have hfz15_2 := blk_frozen BK289.out 2
              have hfz15_3 := blk_frozen BK289.out 3
              have hfz15_4 := blk_frozen BK289.out 4
              have hfz15_5 := blk_frozen BK289.out 5
              have hcz16_0 : w5.cell? ⟨gb290, 0, none⟩ = some (.slice A1_0 l1_0.length c1_0) := (blk_cell BK290.out 0).trans rfl
              have hcz16_1 : w5.cell? ⟨gb290, 1, none⟩ = some (.slice A1_1 l1_1.length c1_1) := (blk_cell BK290.out 1).trans rfl
              have hcz16_2 : w5.cell? ⟨gb290, 2, none⟩ = some (.int .i64 a1_2) := (blk_cell BK290.out 2).trans rfl
              have hcz16_3 : w5.cell? ⟨gb290, 3, none⟩ = some (.int .i64 a1_3) := (blk_cell BK290.out 3).trans rfl
              have hcz16_4 : w5.cell? ⟨gb290, 4, none⟩ = some (.int .i64 a1_4) := (blk_cell BK290.out 4).trans rfl
              have hcz16_5 : w5.cell? ⟨gb290, 5, none⟩ = some (.int .i64 a1_5) := (blk_cell BK290.out 5).trans rfl
              have hfz16_0 := blk_frozen BK290.out 0
              have hfz16_1 := blk_frozen BK290.out 1
              have hfz16_2 := blk_frozen BK290.out 2
              have hfz16_3 := blk_frozen BK290.out 3
              have hfz16_4 := blk_frozen BK290.out 4
              have hfz16_5 := blk_frozen BK290.out 5
              go_wp2
              go_meet
              case rel => exact ⟨_, (true), (by first | rfl | (simp; done) | (simp [*]; done)), H', ⟨by first | omega | exact Nat.le_refl _⟩, ⟨by (with_reducible repeat (first | apply Kd.V_alloc | apply Kd.V_drewN | apply Kd.V_drew)); exact Kd.V_mono HO0_0.out (fun _ hk => ⟨hk.1.1, ⟨hk.1.2, hk.2⟩⟩)⟩, ⟨by (with_reducible repeat (first | apply Kd.V_alloc | apply Kd.V_drewN | apply Kd.V_drew)); exact Kd.V_mono HO0_1.out (fun _ hk => ⟨hk.1.1, ⟨hk.1.2, hk.2⟩⟩)⟩, ⟨by (with_reducible repeat (first | apply Kd.V_alloc | apply Kd.V_drewN | apply Kd.V_drew)); exact Kd.V_mono HO1_0.out (fun _ hk => ⟨hk.1.1, ⟨hk.1.2, hk.2⟩⟩)⟩, ⟨by (with_reducible repeat (first | apply Kd.V_alloc | apply Kd.V_drewN | apply Kd.V_drew)); exact Kd.V_mono HO1_1.out (fun _ hk => ⟨hk.1.1, ⟨hk.1.2, hk.2⟩⟩)⟩, ⟨by (with_reducible repeat (first | refine blk_drewN ?_ _ | refine blk_drew ?_ | refine blk_alloc ?_ _)); exact BK289.out⟩, ⟨by (with_reducible repeat (first | refine blk_drewN ?_ _ | refine blk_drew ?_ | refine blk_alloc ?_ _)); exact BK290.out⟩, ⟨by repeat (first | (with_reducible first | exact HB.out | apply below_alloc | apply pw_below_drewN | apply below_drew1 | refine below_set ?_ GE289.out | refine below_set ?_ GE290.out) | exact HB.out)⟩⟩
          · rw [if_neg c9] at H
            have c9b0 : (a0_5 == a1_5) = false := beq_eq_false_iff_ne.mpr c9
            have c9b1 : (a0_5 != a1_5) = true := bne_iff_ne.mpr c9
            have H' := Aside0.mk H
            clear H
            have hnb17 := NB289_290.out
            have hnc17 := NB290_289.out
            have hcz18_0 : w5.cell? ⟨gb289, 0, none⟩ = some (.slice A0_0 l0_0.length c0_0) := (blk_cell BK289.out 0).trans rfl
            have hcz18_1 : w5.cell? ⟨gb289, 1, none⟩ = some (.slice A0_1 l0_1.length c0_1) := (blk_cell BK289.out 1).trans rfl
            have hcz18_2 : w5.cell? ⟨gb289, 2, none⟩ = some (.int .i64 a0_2) := (blk_cell BK289.out 2).trans rfl
            have hcz18_3 : w5.cell? ⟨gb289, 3, none⟩ = some (.int .i64 a0_3) := (blk_cell BK289.out 3).trans rfl
            have hcz18_4 : w5.cell? ⟨gb289, 4, none⟩ = some (.int .i64 a0_4) := (blk_cell BK289.out 4).trans rfl
            have hcz18_5 : w5.cell? ⟨gb289, 5, none⟩ = some (.int .i64 a0_5) := (blk_cell BK289.out 5).trans rfl
            have hfz18_0 := blk_frozen BK289.out 0
            have hfz18_1 := blk_frozen BK289.out 1
            have hfz18_2 := blk_frozen BK289.out 2
            have hfz18_3 := blk_frozen BK289.out 3
            have hfz18_4 := blk_frozen BK289.out 4
            have hfz18_5 := blk_frozen BK289.out 5
            have hcz19_0 : w5.cell? ⟨gb290, 0, none⟩ = some (.slice A1_0 l1_0.length c1_0) := (blk_cell BK290.out 0).trans rfl
            have hcz19_1 : w5.cell? ⟨gb290, 1, none⟩ = some (.slice A1_1 l1_1.length c1_1) := (blk_cell BK290.out 1).trans rfl
            have hcz19_2 : w5.cell? ⟨gb290, 2, none⟩ = some (.int .i64 a1_2) := (blk_cell BK290.out 2).trans rfl
            have hcz19_3 : w5.cell? ⟨gb290, 3, none⟩ = some (.int .i64 a1_3) := (blk_cell BK290.out 3).trans rfl
            have hcz19_4 : w5.cell? ⟨gb290, 4, none⟩ = some (.int .i64 a1_4) := (blk_cell BK290.out 4).trans rfl
            have hcz19_5 : w5.cell? ⟨gb290, 5, none⟩ = some (.int .i64 a1_5) := (blk_cell BK290.out 5).trans rfl
            have hfz19_0 := blk_frozen BK290.out 0
            have hfz19_1 := blk_frozen BK290.out 1
            have hfz19_2 := blk_frozen BK290.out 2
            have hfz19_3 := blk_frozen BK290.out 3
            have hfz19_4 := blk_frozen BK290.out 4
            have hfz19_5 := blk_frozen BK290.out 5
            go_wp2
            go_meet
            case rel => exact ⟨_, (true), (by first | rfl | (simp; done) | (simp [*]; done)), H', ⟨by first | omega | exact Nat.le_refl _⟩, ⟨by (with_reducible repeat (first | apply Kd.V_alloc | apply Kd.V_drewN | apply Kd.V_drew)); exact Kd.V_mono HO0_0.out (fun _ hk => ⟨hk.1.1, ⟨hk.1.2, hk.2⟩⟩)⟩, ⟨by (with_reducible repeat (first | apply Kd.V_alloc | apply Kd.V_drewN | apply Kd.V_drew)); exact Kd.V_mono HO0_1.out (fun _ hk => ⟨hk.1.1, ⟨hk.1.2, hk.2⟩⟩)⟩, ⟨by (with_reducible repeat (first | apply Kd.V_alloc | apply Kd.V_drewN | apply Kd.V_drew)); exact Kd.V_mono HO1_0.out (fun _ hk => ⟨hk.1.1, ⟨hk.1.2, hk.2⟩⟩)⟩, ⟨by (with_reducible repeat (first | apply Kd.V_alloc | apply Kd.V_drewN | apply Kd.V_drew)); exact Kd.V_mono HO1_1.out (fun _ hk => ⟨hk.1.1, ⟨hk.1.2, hk.2⟩⟩)⟩, ⟨by (with_reducible repeat (first | refine blk_drewN ?_ _ | refine blk_drew ?_ | refine blk_alloc ?_ _)); exact BK289.out⟩, ⟨by (with_reducible repeat (first | refine blk_drewN ?_ _ | refine blk_drew ?_ | refine blk_alloc ?_ _)); exact BK290.out⟩, ⟨by repeat (first | (with_reducible first | exact HB.out | apply below_alloc | apply pw_below_drewN | apply below_drew1 | refine below_set ?_ GE289.out | refine below_set ?_ GE290.out) | exact HB.out)⟩⟩
        · rw [if_neg c8] at H
          have c8b0 : (a0_4 == a1_4) = false := beq_eq_false_iff_ne.mpr c8
          have c8b1 : (a0_4 != a1_4) = true := bne_iff_ne.mpr c8
          have H' := Aside0.mk H
          clear H
          have hnb20 := NB289_290.out
          have hnc20 := NB290_289.out
          have hcz21_0 : w5.cell? ⟨gb289, 0, none⟩ = some (.slice A0_0 l0_0.length c0_0) := (blk_cell BK289.out 0).trans rfl
          have hcz21_1 : w5.cell? ⟨gb289, 1, none⟩ = some (.slice A0_1 l0_1.length c0_1) := (blk_cell BK289.out 1).trans rfl
          have hcz21_2 : w5.cell? ⟨gb289, 2, none⟩ = some (.int .i64 a0_2) := (blk_cell BK289.out 2).trans rfl
          have hcz21_3 : w5.cell? ⟨gb289, 3, none⟩ = some (.int .i64 a0_3) := (blk_cell BK289.out 3).trans rfl
          have hcz21_4 : w5.cell? ⟨gb289, 4, none⟩ = some (.int .i64 a0_4) := (blk_cell BK289.out 4).trans rfl
          have hcz21_5 : w5.cell? ⟨gb289, 5, none⟩ = some (.int .i64 a0_5) := (blk_cell BK289.out 5).trans rfl
          have hfz21_0 := blk_frozen BK289.out 0
          have hfz21_1 := blk_frozen BK289.out 1
          have hfz21_2 := blk_frozen BK289.out 2
          have hfz21_3 := blk_frozen BK289.out 3
          have hfz21_4 := blk_frozen BK289.out 4
          have hfz21_5 := blk_frozen BK289.out 5
          have hcz22_0 : w5.cell? ⟨gb290, 0, none⟩ = some (.slice A1_0 l1_0.length c1_0) := (blk_cell BK290.out 0).trans rfl
          have hcz22_1 : w5.cell? ⟨gb290, 1, none⟩ = some (.slice A1_1 l1_1.length c1_1) := (blk_cell BK290.out 1).trans rfl
          have hcz22_2 : w5.cell? ⟨gb290, 2, none⟩ = some (.int .i64 a1_2) := (blk_cell BK290.out 2).trans rfl
          have hcz22_3 : w5.cell? ⟨gb290, 3, none⟩ = some (.int .i64 a1_3) := (blk_cell BK290.out 3).trans rfl
          have hcz22_4 : w5.cell? ⟨gb290, 4, none⟩ = some (.int .i64 a1_4) := (blk_cell BK290.out 4).trans rfl
          have hcz22_5 : w5.cell? ⟨gb290, 5, none⟩ = some (.int .i64 a1_5) := (blk_cell BK290.out 5).trans rfl
          have hfz22_0 := blk_frozen BK290.out 0
          have hfz22_1 := blk_frozen BK290.out 1
          have hfz22_2 := blk_frozen BK290.out 2
          have hfz22_3 := blk_frozen BK290.out 3
          have hfz22_4 := blk_frozen BK290.out 4
          have hfz22_5 := blk_frozen BK290.out 5
          go_wp2
          go_meet
          case rel => exact ⟨_, (true), (by first | rfl | (simp; done) | (simp [*]; done)), H', ⟨by first | omega | exact Nat.le_refl _⟩, ⟨by (with_reducible repeat (first | apply Kd.V_alloc | apply Kd.V_drewN | apply Kd.V_drew)); exact Kd.V_mono HO0_0.out (fun _ hk => ⟨hk.1.1, ⟨hk.1.2, hk.2⟩⟩)⟩, ⟨by (with_reducible repeat (first | apply Kd.V_alloc | apply Kd.V_drewN | apply Kd.V_drew)); exact Kd.V_mono HO0_1.out (fun _ hk => ⟨hk.1.1, ⟨hk.1.2, hk.2⟩⟩)⟩, ⟨by (with_reducible repeat (first | apply Kd.V_alloc | apply Kd.V_drewN | apply Kd.V_drew)); exact Kd.V_mono HO1_0.out (fun _ hk => ⟨hk.1.1, ⟨hk.1.2, hk.2⟩⟩)⟩, ⟨by (with_reducible repeat (first | apply Kd.V_alloc | apply Kd.V_drewN | apply Kd.V_drew)); exact Kd.V_mono HO1_1.out (fun _ hk => ⟨hk.1.1, ⟨hk.1.2, hk.2⟩⟩)⟩, ⟨by (with_reducible repeat (first | refine blk_drewN ?_ _ | refine blk_drew ?_ | refine blk_alloc ?_ _)); exact BK289.out⟩, ⟨by (with_reducible repeat (first | refine blk_drewN ?_ _ | refine blk_drew ?_ | refine blk_alloc ?_ _)); exact BK290.out⟩, ⟨by repeat (first | (with_reducible first | exact HB.out | apply below_alloc | apply pw_below_drewN | apply below_drew1 | refine below_set ?_ GE289.out | refine below_set ?_ GE290.out) | exact HB.out)⟩⟩
      · rw [if_neg c7] at H
        have c7b0 : (a0_3 == a1_3) = false := beq_eq_false_iff_ne.mpr c7
        have c7b1 : (a0_3 != a1_3) = true := bne_iff_ne.mpr c7
        have H' := Aside0.mk H
        clear H
        have hnb23 := NB289_290.out
        have hnc23 := NB290_289.out
        have hcz24_0 : w5.cell? ⟨gb289, 0, none⟩ = some (.slice A0_0 l0_0.length c0_0) := (blk_cell BK289.out 0).trans rfl
        have hcz24_1 : w5.cell? ⟨gb289, 1, none⟩ = some (.slice A0_1 l0_1.length c0_1) := (blk_cell BK289.out 1).trans rfl
        have hcz24_2 : w5.cell? ⟨gb289, 2, none⟩ = some (.int .i64 a0_2) := (blk_cell BK289.out 2).trans rfl
        have hcz24_3 : w5.cell? ⟨gb289, 3, none⟩ = some (.int .i64 a0_3) := (blk_cell BK289.out 3).trans rfl
        have hcz24_4 : w5.cell? ⟨gb289, 4, none⟩ = some (.int .i64 a0_4) := (blk_cell BK289.out 4).trans rfl
        have hcz24_5 : w5.cell? ⟨gb289, 5, none⟩ = some (.int .i64 a0_5) := (blk_cell BK289.out 5).trans rfl
        have hfz24_0 := blk_frozen BK289.out 0
        have hfz24_1 := blk_frozen BK289.out 1
        have hfz24_2 := blk_frozen BK289.out 2
        have hfz24_3 := blk_frozen BK289.out 3
        have hfz24_4 := blk_frozen BK289.out 4
        have hfz24_5 := blk_frozen BK289.out 5
        have hcz25_0 : w5.cell? ⟨gb290, 0, none⟩ = some (.slice A1_0 l1_0.length c1_0) := (blk_cell BK290.out 0).trans rfl
        have hcz25_1 : w5.cell? ⟨gb290, 1, none⟩ = some (.slice A1_1 l1_1.length c1_1) := (blk_cell BK290.out 1).trans rfl
        have hcz25_2 : w5.cell? ⟨gb290, 2, none⟩ = some (.int .i64 a1_2) := (blk_cell BK290.out 2).trans rfl
        have hcz25_3 : w5.cell? ⟨gb290, 3, none⟩ = some (.int .i64 a1_3) := (blk_cell BK290.out 3).trans rfl
        have hcz25_4 : w5.cell? ⟨gb290, 4, none⟩ = some (.int .i64 a1_4) := (blk_cell BK290.out 4).trans rfl
        have hcz25_5 : w5.cell? ⟨gb290, 5, none⟩ = some (.int .i64 a1_5) := (blk_cell BK290.out 5).trans rfl
        have hfz25_0 := blk_frozen BK290.out 0
        have hfz25_1 := blk_frozen BK290.out 1
        have hfz25_2 := blk_frozen BK290.out 2
        have hfz25_3 := blk_frozen BK290.out 3
        have hfz25_4 := blk_frozen BK290.out 4
        have hfz25_5 := blk_frozen BK290.out 5
        go_wp2
        go_meet
        case rel => exact ⟨_, (true), (by first | rfl | (simp; done) | (simp [*]; done)), H', ⟨by first | omega | exact Nat.le_refl _⟩, ⟨by (with_reducible repeat (first | apply Kd.V_alloc | apply Kd.V_drewN | apply Kd.V_drew)); exact Kd.V_mono HO0_0.out (fun _ hk => ⟨hk.1.1, ⟨hk.1.2, hk.2⟩⟩)⟩, ⟨by (with_reducible repeat (first | apply Kd.V_alloc | apply Kd.V_drewN | apply Kd.V_drew)); exact Kd.V_mono HO0_1.out (fun _ hk => ⟨hk.1.1, ⟨hk.1.2, hk.2⟩⟩)⟩, ⟨by (with_reducible repeat (first | apply Kd.V_alloc | apply Kd.V_drewN | apply Kd.V_drew)); exact Kd.V_mono HO1_0.out (fun _ hk => ⟨hk.1.1, ⟨hk.1.2, hk.2⟩⟩)⟩, ⟨by (with_reducible repeat (first | apply Kd.V_alloc | apply Kd.V_drewN | apply Kd.V_drew)); exact Kd.V_mono HO1_1.out (fun _ hk => ⟨hk.1.1, ⟨hk.1.2, hk.2⟩⟩)⟩, ⟨by (with_reducible repeat (first | refine blk_drewN ?_ _ | refine blk_drew ?_ | refine blk_alloc ?_ _)); exact BK289.out⟩, ⟨by (with_reducible repeat (first | refine blk_drewN ?_ _ | refine blk_drew ?_ | refine blk_alloc ?_ _)); exact BK290.out⟩, ⟨by repeat (first | (with_reducible first | exact HB.out | apply below_alloc | apply pw_below_drewN | apply below_drew1 | refine below_set ?_ GE289.out | refine below_set ?_ GE290.out) | exact HB.out)⟩⟩
    · rw [if_neg c6] at H
      have c6b0 : (a0_2 == a1_2) = false := beq_eq_false_iff_ne.mpr c6
      have c6b1 : (a0_2 != a1_2) = true := bne_iff_ne.mpr c6
      (first | rw [c6b0] | (simp only [i64_w, i32_w]; rw [c6b0]) | skip)
      have H' := Aside0.mk H
      clear H
      have hnb26 := NB289_290.out
      have hnc26 := NB290_289.out
      have hcz27_0 : w5.cell? ⟨gb289, 0, none⟩ = some (.slice A0_0 l0_0.length c0_0) := (blk_cell BK289.out 0).trans rfl
      have hcz27_1 : w5.cell? ⟨gb289, 1, none⟩ = some (.slice A0_1 l0_1.length c0_1) := (blk_cell BK289.out 1).trans rfl
      have hcz27_2 : w5.cell? ⟨gb289, 2, none⟩ = some (.int .i64 a0_2) := (blk_cell BK289.out 2).trans rfl
      have hcz27_3 : w5.cell? ⟨gb289, 3, none⟩ = some (.int .i64 a0_3) := (blk_cell BK289.out 3).trans rfl
      have hcz27_4 : w5.cell? ⟨gb289, 4, none⟩ = some (.int .i64 a0_4) := (blk_cell BK289.out 4).trans rfl
      have hcz27_5 : w5.cell? ⟨gb289, 5, none⟩ = some (.int .i64 a0_5) := (blk_cell BK289.out 5).trans rfl
      have hfz27_0 := blk_frozen BK289.out 0
      have hfz27_1 := blk_frozen BK289.out 1
      have hfz27_2 := blk_frozen BK289.out 2
      have hfz27_3 := blk_frozen BK289.out 3
      have hfz27_4 := blk_frozen BK289.out 4
      have hfz27_5 := blk_frozen BK289.out 5
      have hcz28_0 : w5.cell? ⟨gb290, 0, none⟩ = some (.slice A1_0 l1_0.length c1_0) := (blk_cell BK290.out 0).trans rfl
      have hcz28_1 : w5.cell? ⟨gb290, 1, none⟩ = some (.slice A1_1 l1_1.length c1_1) := (blk_cell BK290.out 1).trans rfl
      have hcz28_2 : w5.cell? ⟨gb290, 2, none⟩ = some (.int .i64 a1_2) := (blk_cell BK290.out 2).trans rfl
      have hcz28_3 : w5.cell? ⟨gb290, 3, none⟩ = some (.int .i64 a1_3) := (blk_cell BK290.out 3).trans rfl
      have hcz28_4 : w5.cell? ⟨gb290, 4, none⟩ = some (.int .i64 a1_4) := (blk_cell BK290.out 4).trans rfl
      have hcz28_5 : w5.cell? ⟨gb290, 5, none⟩ = some (.int .i64 a1_5) := (blk_cell BK290.out 5).trans rfl
      have hfz28_0 := blk_frozen BK290.out 0
      have hfz28_1 := blk_frozen BK290.out 1
      have hfz28_2 := blk_frozen BK290.out 2
      have hfz28_3 := blk_frozen BK290.out 3
      have hfz28_4 := blk_frozen BK290.out 4
      have hfz28_5 := blk_frozen BK290.out 5
      go_wp2
      go_meet
      case rel => exact ⟨_, (true), (by first | rfl | (simp; done) | (simp [*]; done)), H', ⟨by first | omega | exact Nat.le_refl _⟩, ⟨by (with_reducible repeat (first | apply Kd.V_alloc | apply Kd.V_drewN | apply Kd.V_drew)); exact Kd.V_mono HO0_0.out (fun _ hk => ⟨hk.1.1, ⟨hk.1.2, hk.2⟩⟩)⟩, ⟨by (with_reducible repeat (first | apply Kd.V_alloc | apply Kd.V_drewN | apply Kd.V_drew)); exact Kd.V_mono HO0_1.out (fun _ hk => ⟨hk.1.1, ⟨hk.1.2, hk.2⟩⟩)⟩, ⟨by (with_reducible repeat (first | apply Kd.V_alloc | apply Kd.V_drewN | apply Kd.V_drew)); exact Kd.V_mono HO1_0.out (fun _ hk => ⟨hk.1.1, ⟨hk.1.2, hk.2⟩⟩)⟩, ⟨by (with_reducible repeat (first | apply Kd.V_alloc | apply Kd.V_drewN | apply Kd.V_drew)); exact Kd.V_mono HO1_1.out (fun _ hk => ⟨hk.1.1, ⟨hk.1.2, hk.2⟩⟩)⟩, ⟨by (with_reducible repeat (first | refine blk_drewN ?_ _ | refine blk_drew ?_ | refine blk_alloc ?_ _)); exact BK289.out⟩, ⟨by (with_reducible repeat (first | refine blk_drewN ?_ _ | refine blk_drew ?_ | refine blk_alloc ?_ _)); exact BK290.out⟩, ⟨by repeat (first | (with_reducible first | exact HB.out | apply below_alloc | apply pw_below_drewN | apply below_drew1 | refine below_set ?_ GE289.out | refine below_set ?_ GE290.out) | exact HB.out)⟩⟩
  case rest =>
    clear HC3
    try clear c1
    try clear c2
    try clear p2
    try clear c5
    try clear c6
    try clear c6b0
    try clear c6b1
    try clear c7
    try clear c7b0
    try clear c7b1
    try clear c8
    try clear c8b0
    try clear c8b1
    try clear c9
    try clear c9b0
    try clear c9b1
    try clear c10
    try clear c10b0
    try clear c10b1
    try clear c10b2
    try clear c11
    try clear c14
    try clear c17
    try clear c20
    try clear c23
    try clear c26
    try clear hcz12_0
    try clear hcz12_1
    try clear hcz12_2
    try clear hcz12_3
    try clear hcz12_4
    try clear hcz12_5
    try clear hcz13_0
    try clear hcz13_1
    try clear hcz13_2
    try clear hcz13_3
    try clear hcz13_4
    try clear hcz13_5
    try clear hcz15_0
    try clear hcz15_1
    try clear hcz15_2
    try clear hcz15_3
    try clear hcz15_4
    try clear hcz15_5
    try clear hcz16_0
    try clear hcz16_1
    try clear hcz16_2
    try clear hcz16_3
    try clear hcz16_4
    try clear hcz16_5
    try clear hcz18_0
    try clear hcz18_1
    try clear hcz18_2
    try clear hcz18_3
    try clear hcz18_4
    try clear hcz18_5
    try clear hcz19_0
    try clear hcz19_1
    try clear hcz19_2
    try clear hcz19_3
    try clear hcz19_4
    try clear hcz19_5
    try clear hcz21_0
    try clear hcz21_1
    try clear hcz21_2
    try clear hcz21_3
    try clear hcz21_4
    try clear hcz21_5
    try clear hcz22_0
    try clear hcz22_1
    try clear hcz22_2
    try clear hcz22_3
    try clear hcz22_4
    try clear hcz22_5
    try clear hcz24_0
    try clear hcz24_1
    try clear hcz24_2
    try clear hcz24_3
    try clear hcz24_4
    try clear hcz24_5
    try clear hcz25_0
    try clear hcz25_1
    try clear hcz25_2
    try clear hcz25_3
    try clear hcz25_4
    try clear hcz25_5
    try clear hcz27_0
    try clear hcz27_1
    try clear hcz27_2
    try clear hcz27_3
    try clear hcz27_4
    try clear hcz27_5
    try clear hcz28_0
    try clear hcz28_1
    try clear hcz28_2
    try clear hcz28_3
    try clear hcz28_4
    try clear hcz28_5
    try clear hfz12_0
    try clear hfz12_1
    try clear hfz12_2
    try clear hfz12_3
    try clear hfz12_4
    try clear hfz12_5
    try clear hfz13_0
    try clear hfz13_1
    try clear hfz13_2
    try clear hfz13_3
    try clear hfz13_4
    try clear hfz13_5
    try clear hfz15_0
    try clear hfz15_1
    try clear hfz15_2
    try clear hfz15_3
    try clear hfz15_4
    try clear hfz15_5
    try clear hfz16_0
    try clear hfz16_1
    try clear hfz16_2
    try clear hfz16_3
    try clear hfz16_4
    try clear hfz16_5
    try clear hfz18_0
    try clear hfz18_1
    try clear hfz18_2
    try clear hfz18_3
    try clear hfz18_4
    try clear hfz18_5
    try clear hfz19_0
    try clear hfz19_1
    try clear hfz19_2
    try clear hfz19_3
    try clear hfz19_4
    try clear hfz19_5
    try clear hfz21_0
    try clear hfz21_1
    try clear hfz21_2
    try clear hfz21_3
    try clear hfz21_4
    try clear hfz21_5
    try clear hfz22_0
    try clear hfz22_1
    try clear hfz22_2
    try clear hfz22_3
    try clear hfz22_4
    try clear hfz22_5
    try clear hfz24_0
    try clear hfz24_1
    try clear hfz24_2
    try clear hfz24_3
    try clear hfz24_4
    try clear hfz24_5
    try clear hfz25_0
    try clear hfz25_1
    try clear hfz25_2
    try clear hfz25_3
    try clear hfz25_4
    try clear hfz25_5
    try clear hfz27_0
    try clear hfz27_1
    try clear hfz27_2
    try clear hfz27_3
    try clear hfz27_4
    try clear hfz27_5
    try clear hfz28_0
    try clear hfz28_1
    try clear hfz28_2
    try clear hfz28_3
    try clear hfz28_4
    try clear hfz28_5
    obtain ⟨kq, x52_2, rfl, HA, HJ2, HO_290000, HO_290001, HO_291000, HO_291001, BK289, BK290, HB⟩ := hcut
    cases kq with
    | zero => exact absurd HA.out (by simp [cobwebref11_Same.j0])
    | succ kj2 =>
      have H := HA.out
      clear HA
      simp only [cobwebref11_Same.j0] at H
      by_cases c29 : x52_2 = true
      · subst c29
        have H1 : (some false) = some r := by rw [if_pos rfl] at H; exact H
        clear H
        have H := H1
        clear H1
        obtain rfl := Option.some.inj H
        go_wp2
        go_ret
        exact ⟨by first | rfl | (simp [errW_none, errW_some] <;> rfl) | (simp [*, errW_none, errW_some] <;> rfl), by repeat (first | (with_reducible first | exact HB.out | apply below_alloc | apply pw_below_drewN | apply below_drew1 | refine below_set ?_ GE289.out | refine below_set ?_ GE290.out) | exact HB.out)⟩
      · replace c29 := Bool.eq_false_iff.mpr c29
        subst c29
        have H1 : ((some (([] : List (List (S23))) : List (List (S23)))).bind fun y291 => (if y291.length + l0_0.length < 5864062014805 then ((some (y291 ++ l0_0 : List (List (S23)))).bind fun y294 => (if y294.length + l0_1.length < 5864062014805 then ((some (([] : List (List (S23))) : List (List (S23)))).bind fun y300 => (if y300.length + l1_0.length < 5864062014805 then ((some (y300 ++ l1_0 : List (List (S23)))).bind fun y303 => (if y303.length + l1_1.length < 5864062014805 then (cobwebref11_Same.l0 kj2 (y294 ++ l0_1) (y303 ++ l1_1) 0) else (none))) else (none))) else (none))) else (none))) = some r := by rw [if_neg (show ¬ (false = true) by decide)] at H; exact H
        clear H
        have H := H1
        clear H1
        obtain ⟨y291, hy291⟩ : ∃ y_ : List (List (S23)), y_ = (([] : List (List (S23)))) := ⟨_, rfl⟩
        replace H : (if y291.length + l0_0.length < 5864062014805 then ((some (y291 ++ l0_0 : List (List (S23)))).bind fun y294 => (if y294.length + l0_1.length < 5864062014805 then ((some (([] : List (List (S23))) : List (List (S23)))).bind fun y300 => (if y300.length + l1_0.length < 5864062014805 then ((some (y300 ++ l1_0 : List (List (S23)))).bind fun y303 => (if y303.length + l1_1.length < 5864062014805 then (cobwebref11_Same.l0 kj2 (y294 ++ l0_1) (y303 ++ l1_1) 0) else (none))) else (none))) else (none))) else (none)) = some r := by first | (rw [hy291]; with_reducible exact H) | (have H2_ := (Option.bind_some _ _).symm.trans H; rw [hy291]; with_reducible exact H2_) | (have H2_ := (Option.bind_some _ _).symm.trans H; with_reducible exact H2_) | with_reducible exact H | (rw [hy291]; exact H) | exact H
        have Ny291 := Aside0.mk hy291
        clear hy291
        by_cases c30 : y291.length + l0_0.length < 5864062014805
        · rw [if_pos c30] at H
          have LMc30 := Aside0.mk c30
          clear c30
          obtain ⟨y294, hy294⟩ : ∃ y_ : List (List (S23)), y_ = (y291 ++ l0_0) := ⟨_, rfl⟩
          replace H : (if y294.length + l0_1.length < 5864062014805 then ((some (([] : List (List (S23))) : List (List (S23)))).bind fun y300 => (if y300.length + l1_0.length < 5864062014805 then ((some (y300 ++ l1_0 : List (List (S23)))).bind fun y303 => (if y303.length + l1_1.length < 5864062014805 then (cobwebref11_Same.l0 kj2 (y294 ++ l0_1) (y303 ++ l1_1) 0) else (none))) else (none))) else (none)) = some r := by first | (rw [hy294]; with_reducible exact H) | (have H2_ := (Option.bind_some _ _).symm.trans H; rw [hy294]; with_reducible exact H2_) | (have H2_ := (Option.bind_some _ _).symm.trans H; with_reducible exact H2_) | with_reducible exact H | (rw [hy294]; exact H) | exact H
          have Ny294 := Aside0.mk hy294
          clear hy294
          by_cases c31 : y294.length + l0_1.length < 5864062014805
          · rw [if_pos c31] at H
            have LMc31 := Aside0.mk c31
            clear c31
            obtain ⟨y297, hy297⟩ : ∃ y_ : List (List (S23)), y_ = (y294 ++ l0_1) := ⟨_, rfl⟩
            replace H : ((some (([] : List (List (S23))) : List (List (S23)))).bind fun y300 => (if y300.length + l1_0.length < 5864062014805 then ((some (y300 ++ l1_0 : List (List (S23)))).bind fun y303 => (if y303.length + l1_1.length < 5864062014805 then (cobwebref11_Same.l0 kj2 y297 (y303 ++ l1_1) 0) else (none))) else (none))) = some r := by first | (rw [hy297]; with_reducible exact H) | (have H2_ := (Option.bind_some _ _).symm.trans H; rw [hy297]; with_reducible exact H2_) | (have H2_ := (Option.bind_some _ _).symm.trans H; with_reducible exact H2_) | with_reducible exact H | (rw [hy297]; exact H) | exact H
            have Ny297 := Aside0.mk hy297
            clear hy297
            obtain ⟨y300, hy300⟩ : ∃ y_ : List (List (S23)), y_ = (([] : List (List (S23)))) := ⟨_, rfl⟩
            replace H : (if y300.length + l1_0.length < 5864062014805 then ((some (y300 ++ l1_0 : List (List (S23)))).bind fun y303 => (if y303.length + l1_1.length < 5864062014805 then (cobwebref11_Same.l0 kj2 y297 (y303 ++ l1_1) 0) else (none))) else (none)) = some r := by first | (rw [hy300]; with_reducible exact H) | (have H2_ := (Option.bind_some _ _).symm.trans H; rw [hy300]; with_reducible exact H2_) | (have H2_ := (Option.bind_some _ _).symm.trans H; with_reducible exact H2_) | with_reducible exact H | (rw [hy300]; exact H) | exact H
            have Ny300 := Aside0.mk hy300
            clear hy300
            by_cases c32 : y300.length + l1_0.length < 5864062014805
            · rw [if_pos c32] at H
              have LMc32 := Aside0.mk c32
              clear c32
              obtain ⟨y303, hy303⟩ : ∃ y_ : List (List (S23)), y_ = (y300 ++ l1_0) := ⟨_, rfl⟩
              replace H : (if y303.length + l1_1.length < 5864062014805 then (cobwebref11_Same.l0 kj2 y297 (y303 ++ l1_1) 0) else (none)) = some r := by first | (rw [hy303]; with_reducible exact H) | (have H2_ := (Option.bind_some _ _).symm.trans H; rw [hy303]; with_reducible exact H2_) | (have H2_ := (Option.bind_some _ _).symm.trans H; with_reducible exact H2_) | with_reducible exact H | (rw [hy303]; exact H) | exact H
              have Ny303 := Aside0.mk hy303
              clear hy303
              by_cases c33 : y303.length + l1_1.length < 5864062014805
              · rw [if_pos c33] at H
                have LMc33 := Aside0.mk c33
                clear c33
                obtain ⟨y306, hy306⟩ : ∃ y_ : List (List (S23)), y_ = (y303 ++ l1_1) := ⟨_, rfl⟩
                replace H : (cobwebref11_Same.l0 kj2 y297 y306 0) = some r := by first | (rw [hy306]; with_reducible exact H) | (have H2_ := (Option.bind_some _ _).symm.trans H; rw [hy306]; with_reducible exact H2_) | (have H2_ := (Option.bind_some _ _).symm.trans H; with_reducible exact H2_) | with_reducible exact H | (rw [hy306]; exact H) | exact H
                have Ny306 := Aside0.mk hy306
                clear hy306
                have H' := Aside0.mk H
                clear H
                try go_wp2
                have n0_ := Aside0.mk (Kd.V_drew HO_290000.out)
                have n1_ := Aside0.mk (Kd.V_drew HO_290001.out)
                have n2_ := Aside0.mk (Kd.V_drew HO_291000.out)
                have n3_ := Aside0.mk (Kd.V_drew HO_291001.out)
                have n4_ := Aside0.mk (blk_drew BK289.out)
                have n5_ := Aside0.mk (blk_drew BK290.out)
                have n6_ := Aside0.mk (below_drew1 HB.out)
                clear HO_290000
                clear HO_290001
                clear HO_291000
                clear HO_291001
                clear BK289
                clear BK290
                clear HB
                have HO_290000 := n0_
                have HO_290001 := n1_
                have HO_291000 := n2_
                have HO_291001 := n3_
                have BK289 := n4_
                have BK290 := n5_
                have HB := n6_
                clear n0_ n1_ n2_ n3_ n4_ n5_ n6_
                refine start_ (n := 8) (S := fun w' => w'.cell? ⟨gb289, 0, none⟩ = some (.slice A0_0 l0_0.length c0_0) ∧ w'.cell? ⟨gb289, 1, none⟩ = some (.slice A0_1 l0_1.length c0_1) ∧ w'.cell? ⟨gb289, 2, none⟩ = some (.int .i64 a0_2) ∧ w'.cell? ⟨gb289, 3, none⟩ = some (.int .i64 a0_3) ∧ w'.cell? ⟨gb289, 4, none⟩ = some (.int .i64 a0_4) ∧ w'.cell? ⟨gb289, 5, none⟩ = some (.int .i64 a0_5)) (ds := []) #[false, false, false, false, false, false, false, false] (by kernel_rfl) rfl rfl ⟨(blk_cell BK289.out 0).trans rfl, (blk_cell BK289.out 1).trans rfl, (blk_cell BK289.out 2).trans rfl, (blk_cell BK289.out 3).trans rfl, (blk_cell BK289.out 4).trans rfl, (blk_cell BK289.out 5).trans rfl⟩ (fun hHeld => ?_); refine with_tabW cobwebref11_Same.tab3 cobwebref11_Same.bits3 (fun HT_ HW_ => ?_)
                generalize wc.drew = w34 at HO_290000 HO_290001 HO_291000 HO_291001 BK289 BK290 HB hHeld ⊢
                refine pure_ (i := 1) (N := some 54) (v := ?_) (a' := ?_) #[false, true, false, false, false, false, false, false] rfl rfl (any_of HT_.out (by kernel_rfl)) (fun _ _ _ h => h) (Or.inl ⟨by rfl, ?_⟩) ?_ ?_
                rotate_left
                · intro w'
                  go_simp
                  with_reducible rfl
                rotate_left
                · simp only [Act.put, List.setIfInBounds_toArray, List.set_cons_zero, List.set_cons_succ, i64_w, i32_w]
                  rfl
                refine pure_ (i := 4) (N := some 57) (v := ?_) (a' := ?_) #[false, true, false, false, true, false, false, false] rfl rfl (any_of HT_.out (by kernel_rfl)) (fun _ _ _ h => h) (Or.inl ⟨by rfl, ?_⟩) ?_ ?_
                rotate_left
                · intro w'
                  go_simp
                  with_reducible rfl
                rotate_left
                · simp only [Act.put, List.setIfInBounds_toArray, List.set_cons_zero, List.set_cons_succ, i64_w, i32_w]
                  rfl
                refine take_ (i := 2) (N := some 55) (v := ?_) (a' := ?_) #[false, true, true, false, true, false, false, false] rfl rfl (take_ofW HT_.out HW_.out (by kernel_rfl)) (fun _ _ _ h => h) (Or.inl ⟨by rfl, ?_⟩) hHeld ?_ ?_
                rotate_left
                · rintro w' ⟨s0, s1, s2, s3, s4, s5⟩
                  go_simp
                  with_reducible rfl
                rotate_left
                · simp only [Act.put, List.setIfInBounds_toArray, List.set_cons_zero, List.set_cons_succ, i64_w, i32_w]
                  rfl
                refine take_ (i := 5) (N := some 58) (v := ?_) (a' := ?_) #[false, true, true, false, true, true, false, false] rfl rfl (take_ofW HT_.out HW_.out (by kernel_rfl)) (fun _ _ _ h => h) (Or.inl ⟨by rfl, ?_⟩) hHeld ?_ ?_
                rotate_left
                · rintro w' ⟨s0, s1, s2, s3, s4, s5⟩
                  go_simp
                  with_reducible rfl
                rotate_left
                · simp only [Act.put, List.setIfInBounds_toArray, List.set_cons_zero, List.set_cons_succ, i64_w, i32_w]
                  rfl
                refine one_ (i := 0) (N := some 53) #[true, true, true, false, true, true, false, false] rfl rfl (one_of HT_.out (by kernel_rfl)) (by decide) (fun K hK => ?_)
                refine Kd.N_lit_step (Kd.slice 23 k23) _ 47 ?hg (N' := 53) ?hd (xs := ([] : List (List (S23)))) (inner := []) (ok := (fun k_ => ((P0_0_ k_ ∨ P0_1_ k_ ∨ P1_0_ k_ ∨ P1_1_ k_) ∨ w.heap.size ≤ k_) ∧ k_ ≠ gb289 ∧ k_ ≠ gb290)) (okp := (fun k_ => ((P0_0_ k_ ∨ P0_1_ k_ ∨ P1_0_ k_ ∨ P1_1_ k_) ∨ w.heap.size ≤ k_) ∧ k_ ≠ gb289 ∧ k_ ≠ gb290)) ?hr ?hp (fun _ hk => hk) ((show ∀ k_, w34.heap.size ≤ k_ → (fun k_ => ((P0_0_ k_ ∨ P0_1_ k_ ∨ P1_0_ k_ ∨ P1_1_ k_) ∨ w.heap.size ≤ k_) ∧ k_ ≠ gb289 ∧ k_ ≠ gb290) k_ from fun k_ hk => ⟨(.inr (Nat.le_trans (below_size (by repeat (first | (with_reducible first | exact HB.out | apply below_alloc | apply pw_below_drewN | apply below_drew1 | refine below_set ?_ GE289.out | refine below_set ?_ GE290.out) | exact HB.out))) hk)), Kd.freshB (g := gb289) (o := .cells #[.slice A0_0 l0_0.length c0_0, .slice A0_1 l0_1.length c0_1, .int .i64 a0_2, .int .i64 a0_3, .int .i64 a0_4, .int .i64 a0_5] 37 (0, 0)) (by (with_reducible repeat (first | refine blk_drewN ?_ _ | refine blk_drew ?_ | refine blk_alloc ?_ _)); exact BK289.out) k_ hk, Kd.freshB (g := gb290) (o := .cells #[.slice A1_0 l1_0.length c1_0, .slice A1_1 l1_1.length c1_1, .int .i64 a1_2, .int .i64 a1_3, .int .i64 a1_4, .int .i64 a1_5] 37 (0, 0)) (by (with_reducible repeat (first | refine blk_drewN ?_ _ | refine blk_drew ?_ | refine blk_alloc ?_ _)); exact BK290.out) k_ hk⟩) _ (Nat.le_refl _)) (Below.refl _ _) (Nat.le_refl _) (by simp) ?_; (case hd => rfl); (case hg => rfl); (case hr => first | (go_simp; done) | (go_simp; rfl)); (case hp => exact (Reps.none _ _))
                intro v292 w35 ho36 hb hg_ hnew_
                clear hg_ hnew_
                (first | rw [← Ny291.out] at ho36 | (simp only [Int.reduceToNat] at ho36; rw [← Ny291.out] at ho36))
                have n0_ := Aside0.mk (Kd.V_elder' (by (with_reducible repeat (first | apply Kd.V_alloc | apply Kd.V_drewN | apply Kd.V_drew)); exact HO_290000.out) (Kd.N_base ho36) hb)
                have n1_ := Aside0.mk (Kd.V_elder' (by (with_reducible repeat (first | apply Kd.V_alloc | apply Kd.V_drewN | apply Kd.V_drew)); exact HO_290001.out) (Kd.N_base ho36) hb)
                have n2_ := Aside0.mk (Kd.V_elder' (by (with_reducible repeat (first | apply Kd.V_alloc | apply Kd.V_drewN | apply Kd.V_drew)); exact HO_291000.out) (Kd.N_base ho36) hb)
                have n3_ := Aside0.mk (Kd.V_elder' (by (with_reducible repeat (first | apply Kd.V_alloc | apply Kd.V_drewN | apply Kd.V_drew)); exact HO_291001.out) (Kd.N_base ho36) hb)
                have n4_ := Aside0.mk (Kd.N_lower ho36 (below_size (by repeat (first | (with_reducible first | exact HB.out | apply below_alloc | apply pw_below_drewN | apply below_drew1 | refine below_set ?_ GE289.out | refine below_set ?_ GE290.out) | exact HB.out))))
                have n5_ := Aside0.mk (blk_below (g := gb289) (o := .cells #[.slice A0_0 l0_0.length c0_0, .slice A0_1 l0_1.length c0_1, .int .i64 a0_2, .int .i64 a0_3, .int .i64 a0_4, .int .i64 a0_5] 37 (0, 0)) (by (with_reducible repeat (first | refine blk_drewN ?_ _ | refine blk_drew ?_ | refine blk_alloc ?_ _)); exact BK289.out) hb)
                have n6_ := Aside0.mk (blk_below (g := gb290) (o := .cells #[.slice A1_0 l1_0.length c1_0, .slice A1_1 l1_1.length c1_1, .int .i64 a1_2, .int .i64 a1_3, .int .i64 a1_4, .int .i64 a1_5] 37 (0, 0)) (by (with_reducible repeat (first | refine blk_drewN ?_ _ | refine blk_drew ?_ | refine blk_alloc ?_ _)); exact BK290.out) hb)
                have n7_ := Aside0.mk (below_step (by repeat (first | (with_reducible first | exact HB.out | apply below_alloc | apply pw_below_drewN | apply below_drew1 | refine below_set ?_ GE289.out | refine below_set ?_ GE290.out) | exact HB.out)) hb)
                clear HO_290000
                clear HO_290001
                clear HO_291000
                clear HO_291001
                clear BK289
                clear BK290
                clear HB
                have HO_290000 := n0_
                have HO_290001 := n1_
                have HO_291000 := n2_
                have HO_291001 := n3_
                have HO293 := n4_
                have BK289 := n5_
                have BK290 := n6_
                have HB := n7_
                clear n0_ n1_ n2_ n3_ n4_ n5_ n6_ n7_
                clear hb ho36
                refine hK.out _ _ ⟨(blk_cell BK289.out 0).trans rfl, (blk_cell BK289.out 1).trans rfl, (blk_cell BK289.out 2).trans rfl, (blk_cell BK289.out 3).trans rfl, (blk_cell BK289.out 4).trans rfl, (blk_cell BK289.out 5).trans rfl⟩ (fun hHeld => ?_)
                clear hK K
                refine norm_ (a' := ?_) ?_ ?_
                rotate_left
                · show Act.put _ (some 53) _ = _
                  simp only [Act.put, List.setIfInBounds_toArray, List.set_cons_zero, List.set_cons_succ, i64_w, i32_w]
                  rfl
                refine one_ (i := 3) (N := some 56) #[true, true, true, true, true, true, false, false] rfl rfl (one_of HT_.out (by kernel_rfl)) (by decide) (fun K hK => ?_)
                refine Kd.N_append_rows_step (Kd.slice 23 k23) (w0 := w) w.heap.size (by rfl) (.tmp 53) (.tmp 55) 35 47 (.slice none 0 0) 24 rfl Try.underlying35 info47 rfl (by decide) (by omega) v292 y291 l0_0 _ _ _ (fun k_ => ((P0_0_ k_ ∨ P0_1_ k_ ∨ P1_0_ k_ ∨ P1_1_ k_) ∨ w.heap.size ≤ k_) ∧ k_ ≠ gb289 ∧ k_ ≠ gb290) (fun k_ => ((fun k_ => ((P0_0_ k_ ∨ P0_1_ k_ ∨ P1_0_ k_ ∨ P1_1_ k_) ∨ w.heap.size ≤ k_) ∧ k_ ≠ gb289 ∧ k_ ≠ gb290)) k_ ∧ some k_ ≠ (v292 : Value).ownBlock) rfl rfl ?aO ?aR (fun _ hk => hk) ?aF ?aB ?aS ?aL ?_
                (case aR => exact (by skip; exact Kd.V_F (Kd.V_mono (ok' := (fun k_ => ((fun k_ => ((P0_0_ k_ ∨ P0_1_ k_ ∨ P1_0_ k_ ∨ P1_1_ k_) ∨ w.heap.size ≤ k_) ∧ k_ ≠ gb289 ∧ k_ ≠ gb290)) k_ ∧ some k_ ≠ (v292 : Value).ownBlock)) (HO_290000.out) (fun k_ hk => ⟨⟨hk.1.1, ⟨hk.1.2.1, hk.1.2.2⟩⟩, hk.2⟩))))
                (case aB => exact (by repeat (first | (with_reducible first | exact HB.out | apply below_alloc | apply pw_below_drewN | apply below_drew1 | refine below_set ?_ GE289.out | refine below_set ?_ GE290.out) | exact HB.out)))
                (case aF => exact (fun k_ hk => ⟨(.inr (Nat.le_trans (below_size (by repeat (first | (with_reducible first | exact HB.out | apply below_alloc | apply pw_below_drewN | apply below_drew1 | refine below_set ?_ GE289.out | refine below_set ?_ GE290.out) | exact HB.out))) hk)), Kd.freshB (g := gb289) (o := .cells #[.slice A0_0 l0_0.length c0_0, .slice A0_1 l0_1.length c0_1, .int .i64 a0_2, .int .i64 a0_3, .int .i64 a0_4, .int .i64 a0_5] 37 (0, 0)) (by (with_reducible repeat (first | refine blk_drewN ?_ _ | refine blk_drew ?_ | refine blk_alloc ?_ _)); exact BK289.out) k_ hk, Kd.freshB (g := gb290) (o := .cells #[.slice A1_0 l1_0.length c1_0, .slice A1_1 l1_1.length c1_1, .int .i64 a1_2, .int .i64 a1_3, .int .i64 a1_4, .int .i64 a1_5] 37 (0, 0)) (by (with_reducible repeat (first | refine blk_drewN ?_ _ | refine blk_drew ?_ | refine blk_alloc ?_ _)); exact BK290.out) k_ hk⟩))
                (case aO => exact (by (with_reducible repeat (first | apply Kd.N_alloc | apply Kd.N_drewN | apply Kd.N_drew)); exact HO293.out))
                (case aS => exact (below_size (by repeat (first | (with_reducible first | exact HB.out | apply below_alloc | apply pw_below_drewN | apply below_drew1 | refine below_set ?_ GE289.out | refine below_set ?_ GE290.out) | exact HB.out))))
                (case aL => have := LMc30.out; omega)
                intro v295 w37 ho hb hg hat
                rw [← Ny294.out] at ho
                have n0_ := Aside0.mk (Kd.V_afterv (ok := (fun k_ => ((P0_0_ k_ ∨ P0_1_ k_ ∨ P1_0_ k_ ∨ P1_1_ k_) ∨ w.heap.size ≤ k_) ∧ k_ ≠ gb289 ∧ k_ ≠ gb290)) (by (with_reducible repeat (first | apply Kd.V_alloc | apply Kd.V_drewN | apply Kd.V_drew)); exact HO_290000.out) hg hat)
                have n1_ := Aside0.mk (Kd.V_afterv (ok := (fun k_ => ((P0_0_ k_ ∨ P0_1_ k_ ∨ P1_0_ k_ ∨ P1_1_ k_) ∨ w.heap.size ≤ k_) ∧ k_ ≠ gb289 ∧ k_ ≠ gb290)) (by (with_reducible repeat (first | apply Kd.V_alloc | apply Kd.V_drewN | apply Kd.V_drew)); exact HO_290001.out) hg hat)
                have n2_ := Aside0.mk (Kd.V_afterv (ok := (fun k_ => ((P0_0_ k_ ∨ P0_1_ k_ ∨ P1_0_ k_ ∨ P1_1_ k_) ∨ w.heap.size ≤ k_) ∧ k_ ≠ gb289 ∧ k_ ≠ gb290)) (by (with_reducible repeat (first | apply Kd.V_alloc | apply Kd.V_drewN | apply Kd.V_drew)); exact HO_291000.out) hg hat)
                have n3_ := Aside0.mk (Kd.V_afterv (ok := (fun k_ => ((P0_0_ k_ ∨ P0_1_ k_ ∨ P1_0_ k_ ∨ P1_1_ k_) ∨ w.heap.size ≤ k_) ∧ k_ ≠ gb289 ∧ k_ ≠ gb290)) (by (with_reducible repeat (first | apply Kd.V_alloc | apply Kd.V_drewN | apply Kd.V_drew)); exact HO_291001.out) hg hat)
                have n4_ := Aside0.mk (blk_grown (g := gb289) (o := .cells #[.slice A0_0 l0_0.length c0_0, .slice A0_1 l0_1.length c0_1, .int .i64 a0_2, .int .i64 a0_3, .int .i64 a0_4, .int .i64 a0_5] 37 (0, 0)) (by (with_reducible repeat (first | refine blk_drewN ?_ _ | refine blk_drew ?_ | refine blk_alloc ?_ _)); exact BK289.out) hg (Kd.N_ne HO293.out BK289.out (by decide)))
                have n5_ := Aside0.mk (blk_grown (g := gb290) (o := .cells #[.slice A1_0 l1_0.length c1_0, .slice A1_1 l1_1.length c1_1, .int .i64 a1_2, .int .i64 a1_3, .int .i64 a1_4, .int .i64 a1_5] 37 (0, 0)) (by (with_reducible repeat (first | refine blk_drewN ?_ _ | refine blk_drew ?_ | refine blk_alloc ?_ _)); exact BK290.out) hg (Kd.N_ne HO293.out BK290.out (by decide)))
                have n6_ := Aside0.mk (hb)
                have n7_ := Aside0.mk (ho)
                clear HO_290000
                clear HO_290001
                clear HO_291000
                clear HO_291001
                clear BK289
                clear BK290
                clear HB
                clear HO293
                have HO_290000 := n0_
                have HO_290001 := n1_
                have HO_291000 := n2_
                have HO_291001 := n3_
                have BK289 := n4_
                have BK290 := n5_
                have HB := n6_
                have HO296 := n7_
                clear n0_ n1_ n2_ n3_ n4_ n5_ n6_ n7_
                clear ho hb hg hat
                refine hK.out _ _ ⟨(blk_cell BK289.out 0).trans rfl, (blk_cell BK289.out 1).trans rfl, (blk_cell BK289.out 2).trans rfl, (blk_cell BK289.out 3).trans rfl, (blk_cell BK289.out 4).trans rfl, (blk_cell BK289.out 5).trans rfl⟩ (fun hHeld => ?_)
                clear hK K
                refine norm_ (a' := ?_) ?_ ?_
                rotate_left
                · show Act.put _ (some 56) _ = _
                  simp only [Act.put, List.setIfInBounds_toArray, List.set_cons_zero, List.set_cons_succ, i64_w, i32_w]
                  rfl
                refine one_ (i := 6) (N := some 59) #[true, true, true, true, true, true, true, false] rfl rfl (one_of HT_.out (by kernel_rfl)) (by decide) (fun K hK => ?_)
                refine Kd.N_append_rows_step (Kd.slice 23 k23) (w0 := w) w.heap.size (by rfl) (.tmp 56) (.tmp 58) 35 47 (.slice none 0 0) 24 rfl Try.underlying35 info47 rfl (by decide) (by omega) v295 y294 l0_1 _ _ _ (fun k_ => ((P0_0_ k_ ∨ P0_1_ k_ ∨ P1_0_ k_ ∨ P1_1_ k_) ∨ w.heap.size ≤ k_) ∧ k_ ≠ gb289 ∧ k_ ≠ gb290) (fun k_ => ((fun k_ => ((P0_0_ k_ ∨ P0_1_ k_ ∨ P1_0_ k_ ∨ P1_1_ k_) ∨ w.heap.size ≤ k_) ∧ k_ ≠ gb289 ∧ k_ ≠ gb290)) k_ ∧ some k_ ≠ (v295 : Value).ownBlock) rfl rfl ?aO ?aR (fun _ hk => hk) ?aF ?aB ?aS ?aL ?_
                (case aR => exact (by skip; exact Kd.V_F (Kd.V_mono (ok' := (fun k_ => ((fun k_ => ((P0_0_ k_ ∨ P0_1_ k_ ∨ P1_0_ k_ ∨ P1_1_ k_) ∨ w.heap.size ≤ k_) ∧ k_ ≠ gb289 ∧ k_ ≠ gb290)) k_ ∧ some k_ ≠ (v295 : Value).ownBlock)) (HO_290001.out) (fun k_ hk => ⟨⟨hk.1.1, ⟨hk.1.2.1, hk.1.2.2⟩⟩, hk.2⟩))))
                (case aB => exact (by repeat (first | (with_reducible first | exact HB.out | apply below_alloc | apply pw_below_drewN | apply below_drew1 | refine below_set ?_ GE289.out | refine below_set ?_ GE290.out) | exact HB.out)))
                (case aF => exact (fun k_ hk => ⟨(.inr (Nat.le_trans (below_size (by repeat (first | (with_reducible first | exact HB.out | apply below_alloc | apply pw_below_drewN | apply below_drew1 | refine below_set ?_ GE289.out | refine below_set ?_ GE290.out) | exact HB.out))) hk)), Kd.freshB (g := gb289) (o := .cells #[.slice A0_0 l0_0.length c0_0, .slice A0_1 l0_1.length c0_1, .int .i64 a0_2, .int .i64 a0_3, .int .i64 a0_4, .int .i64 a0_5] 37 (0, 0)) (by (with_reducible repeat (first | refine blk_drewN ?_ _ | refine blk_drew ?_ | refine blk_alloc ?_ _)); exact BK289.out) k_ hk, Kd.freshB (g := gb290) (o := .cells #[.slice A1_0 l1_0.length c1_0, .slice A1_1 l1_1.length c1_1, .int .i64 a1_2, .int .i64 a1_3, .int .i64 a1_4, .int .i64 a1_5] 37 (0, 0)) (by (with_reducible repeat (first | refine blk_drewN ?_ _ | refine blk_drew ?_ | refine blk_alloc ?_ _)); exact BK290.out) k_ hk⟩))
                (case aO => exact (by (with_reducible repeat (first | apply Kd.N_alloc | apply Kd.N_drewN | apply Kd.N_drew)); exact HO296.out))
                (case aS => exact (below_size (by repeat (first | (with_reducible first | exact HB.out | apply below_alloc | apply pw_below_drewN | apply below_drew1 | refine below_set ?_ GE289.out | refine below_set ?_ GE290.out) | exact HB.out))))
                (case aL => have := LMc31.out; omega)
                intro v298 w38 ho hb hg hat
                rw [← Ny297.out] at ho
                have n0_ := Aside0.mk (Kd.V_afterv (ok := (fun k_ => ((P0_0_ k_ ∨ P0_1_ k_ ∨ P1_0_ k_ ∨ P1_1_ k_) ∨ w.heap.size ≤ k_) ∧ k_ ≠ gb289 ∧ k_ ≠ gb290)) (by (with_reducible repeat (first | apply Kd.V_alloc | apply Kd.V_drewN | apply Kd.V_drew)); exact HO_290000.out) hg hat)
                have n1_ := Aside0.mk (Kd.V_afterv (ok := (fun k_ => ((P0_0_ k_ ∨ P0_1_ k_ ∨ P1_0_ k_ ∨ P1_1_ k_) ∨ w.heap.size ≤ k_) ∧ k_ ≠ gb289 ∧ k_ ≠ gb290)) (by (with_reducible repeat (first | apply Kd.V_alloc | apply Kd.V_drewN | apply Kd.V_drew)); exact HO_290001.out) hg hat)
                have n2_ := Aside0.mk (Kd.V_afterv (ok := (fun k_ => ((P0_0_ k_ ∨ P0_1_ k_ ∨ P1_0_ k_ ∨ P1_1_ k_) ∨ w.heap.size ≤ k_) ∧ k_ ≠ gb289 ∧ k_ ≠ gb290)) (by (with_reducible repeat (first | apply Kd.V_alloc | apply Kd.V_drewN | apply Kd.V_drew)); exact HO_291000.out) hg hat)
                have n3_ := Aside0.mk (Kd.V_afterv (ok := (fun k_ => ((P0_0_ k_ ∨ P0_1_ k_ ∨ P1_0_ k_ ∨ P1_1_ k_) ∨ w.heap.size ≤ k_) ∧ k_ ≠ gb289 ∧ k_ ≠ gb290)) (by (with_reducible repeat (first | apply Kd.V_alloc | apply Kd.V_drewN | apply Kd.V_drew)); exact HO_291001.out) hg hat)
                have n4_ := Aside0.mk (blk_grown (g := gb289) (o := .cells #[.slice A0_0 l0_0.length c0_0, .slice A0_1 l0_1.length c0_1, .int .i64 a0_2, .int .i64 a0_3, .int .i64 a0_4, .int .i64 a0_5] 37 (0, 0)) (by (with_reducible repeat (first | refine blk_drewN ?_ _ | refine blk_drew ?_ | refine blk_alloc ?_ _)); exact BK289.out) hg (Kd.N_ne HO296.out BK289.out (by decide)))
                have n5_ := Aside0.mk (blk_grown (g := gb290) (o := .cells #[.slice A1_0 l1_0.length c1_0, .slice A1_1 l1_1.length c1_1, .int .i64 a1_2, .int .i64 a1_3, .int .i64 a1_4, .int .i64 a1_5] 37 (0, 0)) (by (with_reducible repeat (first | refine blk_drewN ?_ _ | refine blk_drew ?_ | refine blk_alloc ?_ _)); exact BK290.out) hg (Kd.N_ne HO296.out BK290.out (by decide)))
                have n6_ := Aside0.mk (hb)
                have n7_ := Aside0.mk (ho)
                clear HO_290000
                clear HO_290001
                clear HO_291000
                clear HO_291001
                clear BK289
                clear BK290
                clear HB
                clear HO296
                have HO_290000 := n0_
                have HO_290001 := n1_
                have HO_291000 := n2_
                have HO_291001 := n3_
                have BK289 := n4_
                have BK290 := n5_
                have HB := n6_
                have HO299 := n7_
                clear n0_ n1_ n2_ n3_ n4_ n5_ n6_ n7_
                clear ho hb hg hat
                refine hK.out _ _ ⟨(blk_cell BK289.out 0).trans rfl, (blk_cell BK289.out 1).trans rfl, (blk_cell BK289.out 2).trans rfl, (blk_cell BK289.out 3).trans rfl, (blk_cell BK289.out 4).trans rfl, (blk_cell BK289.out 5).trans rfl⟩ (fun hHeld => ?_)
                clear hK K
                refine norm_ (a' := ?_) ?_ ?_
                rotate_left
                · show Act.put _ (some 59) _ = _
                  simp only [Act.put, List.setIfInBounds_toArray, List.set_cons_zero, List.set_cons_succ, i64_w, i32_w]
                  rfl
                refine pure_ (i := 7) (N := some 5) (v := ?_) (a' := ?_) #[true, true, true, true, true, true, true, true] rfl rfl (any_of HT_.out (by kernel_rfl)) (fun _ _ _ h => h) (Or.inl ⟨by rfl, ?_⟩) ?_ ?_
                rotate_left
                · intro w'
                  go_simp
                  with_reducible rfl
                rotate_left
                · simp only [Act.put, List.setIfInBounds_toArray, List.set_cons_zero, List.set_cons_succ, i64_w, i32_w]
                  rfl
                refine done_ (done_of HT_.out (by kernel_rfl)) ?_
                try go_wp2
                have n0_ := Aside0.mk (Kd.V_drew HO_290000.out)
                have n1_ := Aside0.mk (Kd.V_drew HO_290001.out)
                have n2_ := Aside0.mk (Kd.V_drew HO_291000.out)
                have n3_ := Aside0.mk (Kd.V_drew HO_291001.out)
                have n4_ := Aside0.mk (Kd.N_drew HO299.out)
                have n5_ := Aside0.mk (blk_drew BK289.out)
                have n6_ := Aside0.mk (blk_drew BK290.out)
                have n7_ := Aside0.mk (below_drew1 HB.out)
                clear HO_290000
                clear HO_290001
                clear HO_291000
                clear HO_291001
                clear HO299
                clear BK289
                clear BK290
                clear HB
                have HO_290000 := n0_
                have HO_290001 := n1_
                have HO_291000 := n2_
                have HO_291001 := n3_
                have HO299 := n4_
                have BK289 := n5_
                have BK290 := n6_
                have HB := n7_
                clear n0_ n1_ n2_ n3_ n4_ n5_ n6_ n7_
                refine start_ (n := 8) (S := fun w' => w'.cell? ⟨gb290, 0, none⟩ = some (.slice A1_0 l1_0.length c1_0) ∧ w'.cell? ⟨gb290, 1, none⟩ = some (.slice A1_1 l1_1.length c1_1) ∧ w'.cell? ⟨gb290, 2, none⟩ = some (.int .i64 a1_2) ∧ w'.cell? ⟨gb290, 3, none⟩ = some (.int .i64 a1_3) ∧ w'.cell? ⟨gb290, 4, none⟩ = some (.int .i64 a1_4) ∧ w'.cell? ⟨gb290, 5, none⟩ = some (.int .i64 a1_5)) (ds := []) #[false, false, false, false, false, false, false, false] (by kernel_rfl) rfl rfl ⟨(blk_cell BK290.out 0).trans rfl, (blk_cell BK290.out 1).trans rfl, (blk_cell BK290.out 2).trans rfl, (blk_cell BK290.out 3).trans rfl, (blk_cell BK290.out 4).trans rfl, (blk_cell BK290.out 5).trans rfl⟩ (fun hHeld => ?_); refine with_tabW cobwebref11_Same.tab4 cobwebref11_Same.bits4 (fun HT_ HW_ => ?_)
                generalize w38.drew = w39 at HO_290000 HO_290001 HO_291000 HO_291001 HO299 BK289 BK290 HB hHeld ⊢
                refine pure_ (i := 1) (N := some 61) (v := ?_) (a' := ?_) #[false, true, false, false, false, false, false, false] rfl rfl (any_of HT_.out (by kernel_rfl)) (fun _ _ _ h => h) (Or.inl ⟨by rfl, ?_⟩) ?_ ?_
                rotate_left
                · intro w'
                  go_simp
                  with_reducible rfl
                rotate_left
                · simp only [Act.put, List.setIfInBounds_toArray, List.set_cons_zero, List.set_cons_succ, i64_w, i32_w]
                  rfl
                refine pure_ (i := 4) (N := some 64) (v := ?_) (a' := ?_) #[false, true, false, false, true, false, false, false] rfl rfl (any_of HT_.out (by kernel_rfl)) (fun _ _ _ h => h) (Or.inl ⟨by rfl, ?_⟩) ?_ ?_
                rotate_left
                · intro w'
                  go_simp
                  with_reducible rfl
                rotate_left
                · simp only [Act.put, List.setIfInBounds_toArray, List.set_cons_zero, List.set_cons_succ, i64_w, i32_w]
                  rfl
                refine take_ (i := 2) (N := some 62) (v := ?_) (a' := ?_) #[false, true, true, false, true, false, false, false] rfl rfl (take_ofW HT_.out HW_.out (by kernel_rfl)) (fun _ _ _ h => h) (Or.inl ⟨by rfl, ?_⟩) hHeld ?_ ?_
                rotate_left
                · rintro w' ⟨s0, s1, s2, s3, s4, s5⟩
                  go_simp
                  with_reducible rfl
                rotate_left
                · simp only [Act.put, List.setIfInBounds_toArray, List.set_cons_zero, List.set_cons_succ, i64_w, i32_w]
                  rfl
                refine take_ (i := 5) (N := some 65) (v := ?_) (a' := ?_) #[false, true, true, false, true, true, false, false] rfl rfl (take_ofW HT_.out HW_.out (by kernel_rfl)) (fun _ _ _ h => h) (Or.inl ⟨by rfl, ?_⟩) hHeld ?_ ?_
                rotate_left
                · rintro w' ⟨s0, s1, s2, s3, s4, s5⟩
                  go_simp
                  with_reducible rfl
                rotate_left
                · simp only [Act.put, List.setIfInBounds_toArray, List.set_cons_zero, List.set_cons_succ, i64_w, i32_w]
                  rfl
                refine one_ (i := 0) (N := some 60) #[true, true, true, false, true, true, false, false] rfl rfl (one_of HT_.out (by kernel_rfl)) (by decide) (fun K hK => ?_)
                refine Kd.N_lit_step (Kd.slice 23 k23) _ 47 ?hg (N' := 60) ?hd (xs := ([] : List (List (S23)))) (inner := []) (ok := (fun k_ => ((P0_0_ k_ ∨ P0_1_ k_ ∨ P1_0_ k_ ∨ P1_1_ k_) ∨ w.heap.size ≤ k_) ∧ some k_ ≠ (v298 : Value).ownBlock ∧ k_ ≠ gb289 ∧ k_ ≠ gb290)) (okp := (fun k_ => ((P0_0_ k_ ∨ P0_1_ k_ ∨ P1_0_ k_ ∨ P1_1_ k_) ∨ w.heap.size ≤ k_) ∧ some k_ ≠ (v298 : Value).ownBlock ∧ k_ ≠ gb289 ∧ k_ ≠ gb290)) ?hr ?hp (fun _ hk => hk) ((show ∀ k_, w39.heap.size ≤ k_ → (fun k_ => ((P0_0_ k_ ∨ P0_1_ k_ ∨ P1_0_ k_ ∨ P1_1_ k_) ∨ w.heap.size ≤ k_) ∧ some k_ ≠ (v298 : Value).ownBlock ∧ k_ ≠ gb289 ∧ k_ ≠ gb290) k_ from fun k_ hk => ⟨(.inr (Nat.le_trans (below_size (by repeat (first | (with_reducible first | exact HB.out | apply below_alloc | apply pw_below_drewN | apply below_drew1 | refine below_set ?_ GE289.out | refine below_set ?_ GE290.out) | exact HB.out))) hk)), Kd.fresh' (Kd.N_lt (by (with_reducible repeat (first | apply Kd.N_alloc | apply Kd.N_drewN | apply Kd.N_drew)); exact HO299.out)) k_ hk, Kd.freshB (g := gb289) (o := .cells #[.slice A0_0 l0_0.length c0_0, .slice A0_1 l0_1.length c0_1, .int .i64 a0_2, .int .i64 a0_3, .int .i64 a0_4, .int .i64 a0_5] 37 (0, 0)) (by (with_reducible repeat (first | refine blk_drewN ?_ _ | refine blk_drew ?_ | refine blk_alloc ?_ _)); exact BK289.out) k_ hk, Kd.freshB (g := gb290) (o := .cells #[.slice A1_0 l1_0.length c1_0, .slice A1_1 l1_1.length c1_1, .int .i64 a1_2, .int .i64 a1_3, .int .i64 a1_4, .int .i64 a1_5] 37 (0, 0)) (by (with_reducible repeat (first | refine blk_drewN ?_ _ | refine blk_drew ?_ | refine blk_alloc ?_ _)); exact BK290.out) k_ hk⟩) _ (Nat.le_refl _)) (Below.refl _ _) (Nat.le_refl _) (by simp) ?_; (case hd => rfl); (case hg => rfl); (case hr => first | (go_simp; done) | (go_simp; rfl)); (case hp => exact (Reps.none _ _))
                intro v301 w40 ho41 hb hg_ hnew_
                clear hg_ hnew_
                (first | rw [← Ny300.out] at ho41 | (simp only [Int.reduceToNat] at ho41; rw [← Ny300.out] at ho41))
                have n0_ := Aside0.mk (Kd.V_elder' (by (with_reducible repeat (first | apply Kd.V_alloc | apply Kd.V_drewN | apply Kd.V_drew)); exact HO_290000.out) (Kd.N_base ho41) hb)
                have n1_ := Aside0.mk (Kd.V_elder' (by (with_reducible repeat (first | apply Kd.V_alloc | apply Kd.V_drewN | apply Kd.V_drew)); exact HO_290001.out) (Kd.N_base ho41) hb)
                have n2_ := Aside0.mk (Kd.V_elder' (by (with_reducible repeat (first | apply Kd.V_alloc | apply Kd.V_drewN | apply Kd.V_drew)); exact HO_291000.out) (Kd.N_base ho41) hb)
                have n3_ := Aside0.mk (Kd.V_elder' (by (with_reducible repeat (first | apply Kd.V_alloc | apply Kd.V_drewN | apply Kd.V_drew)); exact HO_291001.out) (Kd.N_base ho41) hb)
                have n4_ := Aside0.mk (Kd.N_elder' (by (with_reducible repeat (first | apply Kd.N_alloc | apply Kd.N_drewN | apply Kd.N_drew)); exact HO299.out) (Kd.N_base ho41) hb)
                have n5_ := Aside0.mk (Kd.N_lower ho41 (below_size (by repeat (first | (with_reducible first | exact HB.out | apply below_alloc | apply pw_below_drewN | apply below_drew1 | refine below_set ?_ GE289.out | refine below_set ?_ GE290.out) | exact HB.out))))
                have n6_ := Aside0.mk (blk_below (g := gb289) (o := .cells #[.slice A0_0 l0_0.length c0_0, .slice A0_1 l0_1.length c0_1, .int .i64 a0_2, .int .i64 a0_3, .int .i64 a0_4, .int .i64 a0_5] 37 (0, 0)) (by (with_reducible repeat (first | refine blk_drewN ?_ _ | refine blk_drew ?_ | refine blk_alloc ?_ _)); exact BK289.out) hb)
                have n7_ := Aside0.mk (blk_below (g := gb290) (o := .cells #[.slice A1_0 l1_0.length c1_0, .slice A1_1 l1_1.length c1_1, .int .i64 a1_2, .int .i64 a1_3, .int .i64 a1_4, .int .i64 a1_5] 37 (0, 0)) (by (with_reducible repeat (first | refine blk_drewN ?_ _ | refine blk_drew ?_ | refine blk_alloc ?_ _)); exact BK290.out) hb)
                have n8_ := Aside0.mk (below_step (by repeat (first | (with_reducible first | exact HB.out | apply below_alloc | apply pw_below_drewN | apply below_drew1 | refine below_set ?_ GE289.out | refine below_set ?_ GE290.out) | exact HB.out)) hb)
                clear HO_290000
                clear HO_290001
                clear HO_291000
                clear HO_291001
                clear HO299
                clear BK289
                clear BK290
                clear HB
                have HO_290000 := n0_
                have HO_290001 := n1_
                have HO_291000 := n2_
                have HO_291001 := n3_
                have HO299 := n4_
                have HO302 := n5_
                have BK289 := n6_
                have BK290 := n7_
                have HB := n8_
                clear n0_ n1_ n2_ n3_ n4_ n5_ n6_ n7_ n8_
                clear hb ho41
                refine hK.out _ _ ⟨(blk_cell BK290.out 0).trans rfl, (blk_cell BK290.out 1).trans rfl, (blk_cell BK290.out 2).trans rfl, (blk_cell BK290.out 3).trans rfl, (blk_cell BK290.out 4).trans rfl, (blk_cell BK290.out 5).trans rfl⟩ (fun hHeld => ?_)
                clear hK K
                refine norm_ (a' := ?_) ?_ ?_
                rotate_left
                · show Act.put _ (some 60) _ = _
                  simp only [Act.put, List.setIfInBounds_toArray, List.set_cons_zero, List.set_cons_succ, i64_w, i32_w]
                  rfl
                refine one_ (i := 3) (N := some 63) #[true, true, true, true, true, true, false, false] rfl rfl (one_of HT_.out (by kernel_rfl)) (by decide) (fun K hK => ?_)
                refine Kd.N_append_rows_step (Kd.slice 23 k23) (w0 := w) w.heap.size (by rfl) (.tmp 60) (.tmp 62) 35 47 (.slice none 0 0) 24 rfl Try.underlying35 info47 rfl (by decide) (by omega) v301 y300 l1_0 _ _ _ (fun k_ => ((P0_0_ k_ ∨ P0_1_ k_ ∨ P1_0_ k_ ∨ P1_1_ k_) ∨ w.heap.size ≤ k_) ∧ some k_ ≠ (v298 : Value).ownBlock ∧ k_ ≠ gb289 ∧ k_ ≠ gb290) (fun k_ => ((fun k_ => ((P0_0_ k_ ∨ P0_1_ k_ ∨ P1_0_ k_ ∨ P1_1_ k_) ∨ w.heap.size ≤ k_) ∧ some k_ ≠ (v298 : Value).ownBlock ∧ k_ ≠ gb289 ∧ k_ ≠ gb290)) k_ ∧ some k_ ≠ (v301 : Value).ownBlock) rfl rfl ?aO ?aR (fun _ hk => hk) ?aF ?aB ?aS ?aL ?_
                (case aR => exact (by skip; exact Kd.V_F (Kd.V_mono (ok' := (fun k_ => ((fun k_ => ((P0_0_ k_ ∨ P0_1_ k_ ∨ P1_0_ k_ ∨ P1_1_ k_) ∨ w.heap.size ≤ k_) ∧ some k_ ≠ (v298 : Value).ownBlock ∧ k_ ≠ gb289 ∧ k_ ≠ gb290)) k_ ∧ some k_ ≠ (v301 : Value).ownBlock)) (HO_291000.out) (fun k_ hk => ⟨⟨hk.1.1.1, ⟨hk.1.2, ⟨hk.1.1.2.1, hk.1.1.2.2⟩⟩⟩, hk.2⟩))))
                (case aB => exact (by repeat (first | (with_reducible first | exact HB.out | apply below_alloc | apply pw_below_drewN | apply below_drew1 | refine below_set ?_ GE289.out | refine below_set ?_ GE290.out) | exact HB.out)))
                (case aF => exact (fun k_ hk => ⟨(.inr (Nat.le_trans (below_size (by repeat (first | (with_reducible first | exact HB.out | apply below_alloc | apply pw_below_drewN | apply below_drew1 | refine below_set ?_ GE289.out | refine below_set ?_ GE290.out) | exact HB.out))) hk)), Kd.fresh' (Kd.N_lt (by (with_reducible repeat (first | apply Kd.N_alloc | apply Kd.N_drewN | apply Kd.N_drew)); exact HO299.out)) k_ hk, Kd.freshB (g := gb289) (o := .cells #[.slice A0_0 l0_0.length c0_0, .slice A0_1 l0_1.length c0_1, .int .i64 a0_2, .int .i64 a0_3, .int .i64 a0_4, .int .i64 a0_5] 37 (0, 0)) (by (with_reducible repeat (first | refine blk_drewN ?_ _ | refine blk_drew ?_ | refine blk_alloc ?_ _)); exact BK289.out) k_ hk, Kd.freshB (g := gb290) (o := .cells #[.slice A1_0 l1_0.length c1_0, .slice A1_1 l1_1.length c1_1, .int .i64 a1_2, .int .i64 a1_3, .int .i64 a1_4, .int .i64 a1_5] 37 (0, 0)) (by (with_reducible repeat (first | refine blk_drewN ?_ _ | refine blk_drew ?_ | refine blk_alloc ?_ _)); exact BK290.out) k_ hk⟩))
                (case aO => exact (by (with_reducible repeat (first | apply Kd.N_alloc | apply Kd.N_drewN | apply Kd.N_drew)); exact HO302.out))
                (case aS => exact (below_size (by repeat (first | (with_reducible first | exact HB.out | apply below_alloc | apply pw_below_drewN | apply below_drew1 | refine below_set ?_ GE289.out | refine below_set ?_ GE290.out) | exact HB.out))))
                (case aL => have := LMc32.out; omega)
                intro v304 w42 ho hb hg hat
                rw [← Ny303.out] at ho
                have n0_ := Aside0.mk (Kd.V_afterv (ok := (fun k_ => ((P0_0_ k_ ∨ P0_1_ k_ ∨ P1_0_ k_ ∨ P1_1_ k_) ∨ w.heap.size ≤ k_) ∧ some k_ ≠ (v298 : Value).ownBlock ∧ k_ ≠ gb289 ∧ k_ ≠ gb290)) (by (with_reducible repeat (first | apply Kd.V_alloc | apply Kd.V_drewN | apply Kd.V_drew)); exact Kd.V_mono HO_290000.out (fun _ hk => ⟨⟨hk.1.1.1, ⟨hk.1.2, ⟨hk.1.1.2.1, hk.1.1.2.2⟩⟩⟩, hk.2⟩)) hg hat)
                have n1_ := Aside0.mk (Kd.V_afterv (ok := (fun k_ => ((P0_0_ k_ ∨ P0_1_ k_ ∨ P1_0_ k_ ∨ P1_1_ k_) ∨ w.heap.size ≤ k_) ∧ some k_ ≠ (v298 : Value).ownBlock ∧ k_ ≠ gb289 ∧ k_ ≠ gb290)) (by (with_reducible repeat (first | apply Kd.V_alloc | apply Kd.V_drewN | apply Kd.V_drew)); exact Kd.V_mono HO_290001.out (fun _ hk => ⟨⟨hk.1.1.1, ⟨hk.1.2, ⟨hk.1.1.2.1, hk.1.1.2.2⟩⟩⟩, hk.2⟩)) hg hat)
                have n2_ := Aside0.mk (Kd.V_afterv (ok := (fun k_ => ((P0_0_ k_ ∨ P0_1_ k_ ∨ P1_0_ k_ ∨ P1_1_ k_) ∨ w.heap.size ≤ k_) ∧ some k_ ≠ (v298 : Value).ownBlock ∧ k_ ≠ gb289 ∧ k_ ≠ gb290)) (by (with_reducible repeat (first | apply Kd.V_alloc | apply Kd.V_drewN | apply Kd.V_drew)); exact Kd.V_mono HO_291000.out (fun _ hk => ⟨⟨hk.1.1.1, ⟨hk.1.2, ⟨hk.1.1.2.1, hk.1.1.2.2⟩⟩⟩, hk.2⟩)) hg hat)
                have n3_ := Aside0.mk (Kd.V_afterv (ok := (fun k_ => ((P0_0_ k_ ∨ P0_1_ k_ ∨ P1_0_ k_ ∨ P1_1_ k_) ∨ w.heap.size ≤ k_) ∧ some k_ ≠ (v298 : Value).ownBlock ∧ k_ ≠ gb289 ∧ k_ ≠ gb290)) (by (with_reducible repeat (first | apply Kd.V_alloc | apply Kd.V_drewN | apply Kd.V_drew)); exact Kd.V_mono HO_291001.out (fun _ hk => ⟨⟨hk.1.1.1, ⟨hk.1.2, ⟨hk.1.1.2.1, hk.1.1.2.2⟩⟩⟩, hk.2⟩)) hg hat)
                have n4_ := Aside0.mk (blk_grown (g := gb289) (o := .cells #[.slice A0_0 l0_0.length c0_0, .slice A0_1 l0_1.length c0_1, .int .i64 a0_2, .int .i64 a0_3, .int .i64 a0_4, .int .i64 a0_5] 37 (0, 0)) (by (with_reducible repeat (first | refine blk_drewN ?_ _ | refine blk_drew ?_ | refine blk_alloc ?_ _)); exact BK289.out) hg (Kd.N_ne HO302.out BK289.out (by decide)))
                have n5_ := Aside0.mk (blk_grown (g := gb290) (o := .cells #[.slice A1_0 l1_0.length c1_0, .slice A1_1 l1_1.length c1_1, .int .i64 a1_2, .int .i64 a1_3, .int .i64 a1_4, .int .i64 a1_5] 37 (0, 0)) (by (with_reducible repeat (first | refine blk_drewN ?_ _ | refine blk_drew ?_ | refine blk_alloc ?_ _)); exact BK290.out) hg (Kd.N_ne HO302.out BK290.out (by decide)))
                have n6_ := Aside0.mk (Kd.N_afterv (ok := (fun k_ => ((P0_0_ k_ ∨ P0_1_ k_ ∨ P1_0_ k_ ∨ P1_1_ k_) ∨ w.heap.size ≤ k_) ∧ k_ ≠ gb289 ∧ k_ ≠ gb290)) (by (with_reducible repeat (first | apply Kd.N_alloc | apply Kd.N_drewN | apply Kd.N_drew)); exact HO299.out) hg hat)
                have n7_ := Aside0.mk (hb)
                have n8_ := Aside0.mk (ho)
                clear HO_290000
                clear HO_290001
                clear HO_291000
                clear HO_291001
                clear BK289
                clear BK290
                clear HO299
                clear HB
                clear HO302
                have HO_290000 := n0_
                have HO_290001 := n1_
                have HO_291000 := n2_
                have HO_291001 := n3_
                have BK289 := n4_
                have BK290 := n5_
                have HO299 := n6_
                have HB := n7_
                have HO305 := n8_
                clear n0_ n1_ n2_ n3_ n4_ n5_ n6_ n7_ n8_
                clear ho hb hg hat
                refine hK.out _ _ ⟨(blk_cell BK290.out 0).trans rfl, (blk_cell BK290.out 1).trans rfl, (blk_cell BK290.out 2).trans rfl, (blk_cell BK290.out 3).trans rfl, (blk_cell BK290.out 4).trans rfl, (blk_cell BK290.out 5).trans rfl⟩ (fun hHeld => ?_)
                clear hK K
                refine norm_ (a' := ?_) ?_ ?_
                rotate_left
                · show Act.put _ (some 63) _ = _
                  simp only [Act.put, List.setIfInBounds_toArray, List.set_cons_zero, List.set_cons_succ, i64_w, i32_w]
                  rfl
                refine one_ (i := 6) (N := some 66) #[true, true, true, true, true, true, true, false] rfl rfl (one_of HT_.out (by kernel_rfl)) (by decide) (fun K hK => ?_)
                refine Kd.N_append_rows_step (Kd.slice 23 k23) (w0 := w) w.heap.size (by rfl) (.tmp 63) (.tmp 65) 35 47 (.slice none 0 0) 24 rfl Try.underlying35 info47 rfl (by decide) (by omega) v304 y303 l1_1 _ _ _ (fun k_ => ((P0_0_ k_ ∨ P0_1_ k_ ∨ P1_0_ k_ ∨ P1_1_ k_) ∨ w.heap.size ≤ k_) ∧ some k_ ≠ (v298 : Value).ownBlock ∧ k_ ≠ gb289 ∧ k_ ≠ gb290) (fun k_ => ((fun k_ => ((P0_0_ k_ ∨ P0_1_ k_ ∨ P1_0_ k_ ∨ P1_1_ k_) ∨ w.heap.size ≤ k_) ∧ some k_ ≠ (v298 : Value).ownBlock ∧ k_ ≠ gb289 ∧ k_ ≠ gb290)) k_ ∧ some k_ ≠ (v304 : Value).ownBlock) rfl rfl ?aO ?aR (fun _ hk => hk) ?aF ?aB ?aS ?aL ?_
                (case aR => exact (by skip; exact Kd.V_F (Kd.V_mono (ok' := (fun k_ => ((fun k_ => ((P0_0_ k_ ∨ P0_1_ k_ ∨ P1_0_ k_ ∨ P1_1_ k_) ∨ w.heap.size ≤ k_) ∧ some k_ ≠ (v298 : Value).ownBlock ∧ k_ ≠ gb289 ∧ k_ ≠ gb290)) k_ ∧ some k_ ≠ (v304 : Value).ownBlock)) (HO_291001.out) (fun k_ hk => ⟨⟨hk.1.1, ⟨hk.1.2.1, ⟨hk.1.2.2.1, hk.1.2.2.2⟩⟩⟩, hk.2⟩))))
                (case aB => exact (by repeat (first | (with_reducible first | exact HB.out | apply below_alloc | apply pw_below_drewN | apply below_drew1 | refine below_set ?_ GE289.out | refine below_set ?_ GE290.out) | exact HB.out)))
                (case aF => exact (fun k_ hk => ⟨(.inr (Nat.le_trans (below_size (by repeat (first | (with_reducible first | exact HB.out | apply below_alloc | apply pw_below_drewN | apply below_drew1 | refine below_set ?_ GE289.out | refine below_set ?_ GE290.out) | exact HB.out))) hk)), Kd.fresh' (Kd.N_lt (by (with_reducible repeat (first | apply Kd.N_alloc | apply Kd.N_drewN | apply Kd.N_drew)); exact HO299.out)) k_ hk, Kd.freshB (g := gb289) (o := .cells #[.slice A0_0 l0_0.length c0_0, .slice A0_1 l0_1.length c0_1, .int .i64 a0_2, .int .i64 a0_3, .int .i64 a0_4, .int .i64 a0_5] 37 (0, 0)) (by (with_reducible repeat (first | refine blk_drewN ?_ _ | refine blk_drew ?_ | refine blk_alloc ?_ _)); exact BK289.out) k_ hk, Kd.freshB (g := gb290) (o := .cells #[.slice A1_0 l1_0.length c1_0, .slice A1_1 l1_1.length c1_1, .int .i64 a1_2, .int .i64 a1_3, .int .i64 a1_4, .int .i64 a1_5] 37 (0, 0)) (by (with_reducible repeat (first | refine blk_drewN ?_ _ | refine blk_drew ?_ | refine blk_alloc ?_ _)); exact BK290.out) k_ hk⟩))
                (case aO => exact (by (with_reducible repeat (first | apply Kd.N_alloc | apply Kd.N_drewN | apply Kd.N_drew)); exact HO305.out))
                (case aS => exact (below_size (by repeat (first | (with_reducible first | exact HB.out | apply below_alloc | apply pw_below_drewN | apply below_drew1 | refine below_set ?_ GE289.out | refine below_set ?_ GE290.out) | exact HB.out))))
                (case aL => have := LMc33.out; omega)
                intro v307 w43 ho hb hg hat
                rw [← Ny306.out] at ho
                have n0_ := Aside0.mk (Kd.V_afterv (ok := (fun k_ => ((P0_0_ k_ ∨ P0_1_ k_ ∨ P1_0_ k_ ∨ P1_1_ k_) ∨ w.heap.size ≤ k_) ∧ some k_ ≠ (v298 : Value).ownBlock ∧ k_ ≠ gb289 ∧ k_ ≠ gb290)) (by (with_reducible repeat (first | apply Kd.V_alloc | apply Kd.V_drewN | apply Kd.V_drew)); exact HO_290000.out) hg hat)
                have n1_ := Aside0.mk (Kd.V_afterv (ok := (fun k_ => ((P0_0_ k_ ∨ P0_1_ k_ ∨ P1_0_ k_ ∨ P1_1_ k_) ∨ w.heap.size ≤ k_) ∧ some k_ ≠ (v298 : Value).ownBlock ∧ k_ ≠ gb289 ∧ k_ ≠ gb290)) (by (with_reducible repeat (first | apply Kd.V_alloc | apply Kd.V_drewN | apply Kd.V_drew)); exact HO_290001.out) hg hat)
                have n2_ := Aside0.mk (Kd.V_afterv (ok := (fun k_ => ((P0_0_ k_ ∨ P0_1_ k_ ∨ P1_0_ k_ ∨ P1_1_ k_) ∨ w.heap.size ≤ k_) ∧ some k_ ≠ (v298 : Value).ownBlock ∧ k_ ≠ gb289 ∧ k_ ≠ gb290)) (by (with_reducible repeat (first | apply Kd.V_alloc | apply Kd.V_drewN | apply Kd.V_drew)); exact HO_291000.out) hg hat)
                have n3_ := Aside0.mk (Kd.V_afterv (ok := (fun k_ => ((P0_0_ k_ ∨ P0_1_ k_ ∨ P1_0_ k_ ∨ P1_1_ k_) ∨ w.heap.size ≤ k_) ∧ some k_ ≠ (v298 : Value).ownBlock ∧ k_ ≠ gb289 ∧ k_ ≠ gb290)) (by (with_reducible repeat (first | apply Kd.V_alloc | apply Kd.V_drewN | apply Kd.V_drew)); exact HO_291001.out) hg hat)
                have n4_ := Aside0.mk (blk_grown (g := gb289) (o := .cells #[.slice A0_0 l0_0.length c0_0, .slice A0_1 l0_1.length c0_1, .int .i64 a0_2, .int .i64 a0_3, .int .i64 a0_4, .int .i64 a0_5] 37 (0, 0)) (by (with_reducible repeat (first | refine blk_drewN ?_ _ | refine blk_drew ?_ | refine blk_alloc ?_ _)); exact BK289.out) hg (Kd.N_ne HO305.out BK289.out (by decide)))
                have n5_ := Aside0.mk (blk_grown (g := gb290) (o := .cells #[.slice A1_0 l1_0.length c1_0, .slice A1_1 l1_1.length c1_1, .int .i64 a1_2, .int .i64 a1_3, .int .i64 a1_4, .int .i64 a1_5] 37 (0, 0)) (by (with_reducible repeat (first | refine blk_drewN ?_ _ | refine blk_drew ?_ | refine blk_alloc ?_ _)); exact BK290.out) hg (Kd.N_ne HO305.out BK290.out (by decide)))
                have n6_ := Aside0.mk (Kd.N_afterv (ok := (fun k_ => ((P0_0_ k_ ∨ P0_1_ k_ ∨ P1_0_ k_ ∨ P1_1_ k_) ∨ w.heap.size ≤ k_) ∧ k_ ≠ gb289 ∧ k_ ≠ gb290)) (by (with_reducible repeat (first | apply Kd.N_alloc | apply Kd.N_drewN | apply Kd.N_drew)); exact HO299.out) hg hat)
                have n7_ := Aside0.mk (hb)
                have n8_ := Aside0.mk (ho)
                clear HO_290000
                clear HO_290001
                clear HO_291000
                clear HO_291001
                clear BK289
                clear BK290
                clear HO299
                clear HB
                clear HO305
                have HO_290000 := n0_
                have HO_290001 := n1_
                have HO_291000 := n2_
                have HO_291001 := n3_
                have BK289 := n4_
                have BK290 := n5_
                have HO299 := n6_
                have HB := n7_
                have HO308 := n8_
                clear n0_ n1_ n2_ n3_ n4_ n5_ n6_ n7_ n8_
                clear ho hb hg hat
                refine hK.out _ _ ⟨(blk_cell BK290.out 0).trans rfl, (blk_cell BK290.out 1).trans rfl, (blk_cell BK290.out 2).trans rfl, (blk_cell BK290.out 3).trans rfl, (blk_cell BK290.out 4).trans rfl, (blk_cell BK290.out 5).trans rfl⟩ (fun hHeld => ?_)
                clear hK K
                refine norm_ (a' := ?_) ?_ ?_
                rotate_left
                · show Act.put _ (some 66) _ = _
                  simp only [Act.put, List.setIfInBounds_toArray, List.set_cons_zero, List.set_cons_succ, i64_w, i32_w]
                  rfl
                refine pure_ (i := 7) (N := some 6) (v := ?_) (a' := ?_) #[true, true, true, true, true, true, true, true] rfl rfl (any_of HT_.out (by kernel_rfl)) (fun _ _ _ h => h) (Or.inl ⟨by rfl, ?_⟩) ?_ ?_
                rotate_left
                · intro w'
                  go_simp
                  with_reducible rfl
                rotate_left
                · simp only [Act.put, List.setIfInBounds_toArray, List.set_cons_zero, List.set_cons_succ, i64_w, i32_w]
                  rfl
                refine done_ (done_of HT_.out (by kernel_rfl)) ?_
                try go_wp2
                go_loopg [7] kj2 (fun kq v7 w' => ∃ (x7_2 : Int), v7 = .int .i64 x7_2 ∧ Aside0 (cobwebref11_Same.l0 kq y297 y306 x7_2 = some r) ∧ Aside0 (kq ≤ kj2) ∧ Aside0 (Kd.N (Kd.slice 23 k23) 47 w' w.heap.size (fun k_ => ((P0_0_ k_ ∨ P0_1_ k_ ∨ P1_0_ k_ ∨ P1_1_ k_) ∨ w.heap.size ≤ k_) ∧ some k_ ≠ (v307 : Value).ownBlock ∧ k_ ≠ gb289 ∧ k_ ≠ gb290) v298 y297) ∧ Aside0 (Kd.N (Kd.slice 23 k23) 47 w' w.heap.size (fun k_ => ((P0_0_ k_ ∨ P0_1_ k_ ∨ P1_0_ k_ ∨ P1_1_ k_) ∨ w.heap.size ≤ k_) ∧ some k_ ≠ (v298 : Value).ownBlock ∧ k_ ≠ gb289 ∧ k_ ≠ gb290) v307 y306) ∧ Aside0 (Kd.V (Kd.slice 23 k23) 47 w' w.heap.size (fun k_ => ((P0_0_ k_ ∨ P0_1_ k_ ∨ P1_0_ k_ ∨ P1_1_ k_) ∨ w.heap.size ≤ k_) ∧ some k_ ≠ (v298 : Value).ownBlock ∧ some k_ ≠ (v307 : Value).ownBlock ∧ k_ ≠ gb289 ∧ k_ ≠ gb290) (.slice A0_0 l0_0.length c0_0) l0_0) ∧ Aside0 (Kd.V (Kd.slice 23 k23) 47 w' w.heap.size (fun k_ => ((P0_0_ k_ ∨ P0_1_ k_ ∨ P1_0_ k_ ∨ P1_1_ k_) ∨ w.heap.size ≤ k_) ∧ some k_ ≠ (v298 : Value).ownBlock ∧ some k_ ≠ (v307 : Value).ownBlock ∧ k_ ≠ gb289 ∧ k_ ≠ gb290) (.slice A0_1 l0_1.length c0_1) l0_1) ∧ Aside0 (Kd.V (Kd.slice 23 k23) 47 w' w.heap.size (fun k_ => ((P0_0_ k_ ∨ P0_1_ k_ ∨ P1_0_ k_ ∨ P1_1_ k_) ∨ w.heap.size ≤ k_) ∧ some k_ ≠ (v298 : Value).ownBlock ∧ some k_ ≠ (v307 : Value).ownBlock ∧ k_ ≠ gb289 ∧ k_ ≠ gb290) (.slice A1_0 l1_0.length c1_0) l1_0) ∧ Aside0 (Kd.V (Kd.slice 23 k23) 47 w' w.heap.size (fun k_ => ((P0_0_ k_ ∨ P0_1_ k_ ∨ P1_0_ k_ ∨ P1_1_ k_) ∨ w.heap.size ≤ k_) ∧ some k_ ≠ (v298 : Value).ownBlock ∧ some k_ ≠ (v307 : Value).ownBlock ∧ k_ ≠ gb289 ∧ k_ ≠ gb290) (.slice A1_1 l1_1.length c1_1) l1_1) ∧ Aside0 (w'.heap[gb289]? = some (.cells #[(.slice A0_0 l0_0.length c0_0), (.slice A0_1 l0_1.length c0_1), .int .i64 a0_2, .int .i64 a0_3, .int .i64 a0_4, .int .i64 a0_5] 37 (0, 0))) ∧ Aside0 (w'.heap[gb290]? = some (.cells #[(.slice A1_0 l1_0.length c1_0), (.slice A1_1 l1_1.length c1_1), .int .i64 a1_2, .int .i64 a1_3, .int .i64 a1_4, .int .i64 a1_5] 37 (0, 0))) ∧ Aside0 (Below w.heap.size w w'))
                case atStart => exact ⟨(0), (by first | rfl | (simp; done) | (simp [*]; done)), H', ⟨Nat.le_refl _⟩, ⟨by (with_reducible repeat (first | apply Kd.N_alloc | apply Kd.N_drewN | apply Kd.N_drew)); exact Kd.N_mono HO299.out (fun _ hk => ⟨hk.1.1, ⟨hk.2, ⟨hk.1.2.1, hk.1.2.2⟩⟩⟩)⟩, ⟨by (with_reducible repeat (first | apply Kd.N_alloc | apply Kd.N_drewN | apply Kd.N_drew)); exact HO308.out⟩, ⟨by (with_reducible repeat (first | apply Kd.V_alloc | apply Kd.V_drewN | apply Kd.V_drew)); exact Kd.V_mono HO_290000.out (fun _ hk => ⟨hk.1.1, ⟨hk.1.2.1, ⟨hk.2, ⟨hk.1.2.2.1, hk.1.2.2.2⟩⟩⟩⟩)⟩, ⟨by (with_reducible repeat (first | apply Kd.V_alloc | apply Kd.V_drewN | apply Kd.V_drew)); exact Kd.V_mono HO_290001.out (fun _ hk => ⟨hk.1.1, ⟨hk.1.2.1, ⟨hk.2, ⟨hk.1.2.2.1, hk.1.2.2.2⟩⟩⟩⟩)⟩, ⟨by (with_reducible repeat (first | apply Kd.V_alloc | apply Kd.V_drewN | apply Kd.V_drew)); exact Kd.V_mono HO_291000.out (fun _ hk => ⟨hk.1.1, ⟨hk.1.2.1, ⟨hk.2, ⟨hk.1.2.2.1, hk.1.2.2.2⟩⟩⟩⟩)⟩, ⟨by (with_reducible repeat (first | apply Kd.V_alloc | apply Kd.V_drewN | apply Kd.V_drew)); exact Kd.V_mono HO_291001.out (fun _ hk => ⟨hk.1.1, ⟨hk.1.2.1, ⟨hk.2, ⟨hk.1.2.2.1, hk.1.2.2.2⟩⟩⟩⟩)⟩, ⟨by (with_reducible repeat (first | refine blk_drewN ?_ _ | refine blk_drew ?_ | refine blk_alloc ?_ _)); exact BK289.out⟩, ⟨by (with_reducible repeat (first | refine blk_drewN ?_ _ | refine blk_drew ?_ | refine blk_alloc ?_ _)); exact BK290.out⟩, ⟨by repeat (first | (with_reducible first | exact HB.out | apply below_alloc | apply pw_below_drewN | apply below_drew1 | refine below_set ?_ GE289.out | refine below_set ?_ GE290.out) | exact HB.out)⟩⟩
                case round =>
                  clear H'
                  try clear c1
                  try clear c2
                  try clear p2
                  try clear c3
                  try clear c29
                  try clear c30
                  try clear c31
                  try clear c32
                  try clear c33
                  try clear hcz12_4
                  try clear hcz12_5
                  try clear hcz13_0
                  try clear hcz13_1
                  try clear hcz13_2
                  try clear hcz13_3
                  try clear hcz13_4
                  try clear hcz13_5
                  try clear hcz15_0
                  try clear hcz15_1
                  try clear hcz15_2
                  try clear hcz15_3
                  try clear hcz15_4
                  try clear hcz15_5
                  try clear hcz16_0
                  try clear hcz16_1
                  try clear hcz16_2
                  try clear hcz16_3
                  try clear hcz16_4
                  try clear hcz16_5
                  try clear hcz18_0
                  try clear hcz18_1
                  try clear hcz18_2
                  try clear hcz18_3
                  try clear hcz18_4
                  try clear hcz18_5
                  try clear hcz19_0
                  try clear hcz19_1
                  try clear hcz19_2
                  try clear hcz19_3
                  try clear hcz19_4
                  try clear hcz19_5
                  try clear hcz21_0
                  try clear hcz21_1
                  try clear hcz21_2
                  try clear hcz21_3
                  try clear hcz21_4
                  try clear hcz21_5
                  try clear hcz22_0
                  try clear hcz22_1
                  try clear hcz22_2
                  try clear hcz22_3
                  try clear hcz22_4
                  try clear hcz22_5
                  try clear hcz24_0
                  try clear hcz24_1
                  try clear hcz24_2
                  try clear hcz24_3
                  try clear hcz24_4
                  try clear hcz24_5
                  try clear hcz25_0
                  try clear hcz25_1
                  try clear hcz25_2
                  try clear hcz25_3
                  try clear hcz25_4
                  try clear hcz25_5
                  try clear hcz27_0
                  try clear hcz27_1
                  try clear hcz27_2
                  try clear hcz27_3
                  try clear hcz27_4
                  try clear hcz27_5
                  try clear hcz28_0
                  try clear hcz28_1
                  try clear hcz28_2
                  try clear hcz28_3
                  try clear hcz28_4
                  try clear hcz28_5
                  try clear hfz12_0
                  try clear hfz12_1
                  try clear hfz12_2
                  try clear hfz12_3
                  try clear hfz12_4
                  try clear hfz12_5
                  try clear hfz13_0
                  try clear hfz13_1
                  try clear hfz13_2
                  try clear hfz13_3
                  try clear hfz13_4
                  try clear hfz13_5
                  try clear hfz15_0
                  try clear hfz15_1
                  try clear hfz15_2
                  try clear hfz15_3
                  try clear hfz15_4
                  try clear hfz15_5
                  try clear hfz16_0
                  try clear hfz16_1
                  try clear hfz16_2
                  try clear hfz16_3
                  try clear hfz16_4
                  try clear hfz16_5
                  try clear hfz18_0
                  try clear hfz18_1
                  try clear hfz18_2
                  try clear hfz18_3
                  try clear hfz18_4
                  try clear hfz18_5
                  try clear hfz19_0
                  try clear hfz19_1
                  try clear hfz19_2
                  try clear hfz19_3
                  try clear hfz19_4
                  try clear hfz19_5
                  try clear hfz21_0
                  try clear hfz21_1
                  try clear hfz21_2
                  try clear hfz21_3
                  try clear hfz21_4
                  try clear hfz21_5
                  try clear hfz22_0
                  try clear hfz22_1
                  try clear hfz22_2
                  try clear hfz22_3
                  try clear hfz22_4
                  try clear hfz22_5
                  try clear hfz24_0
                  try clear hfz24_1
                  try clear hfz24_2
                  try clear hfz24_3
                  try clear hfz24_4
                  try clear hfz24_5
                  try clear hfz25_0
                  try clear hfz25_1
                  try clear hfz25_2
                  try clear hfz25_3
                  try clear hfz25_4
                  try clear hfz25_5
                  try clear hfz27_0
                  try clear hfz27_1
                  try clear hfz27_2
                  try clear hfz27_3
                  try clear hfz27_4
                  try clear hfz27_5
                  try clear hfz28_0
                  try clear hfz28_1
                  try clear hfz28_2
                  try clear hfz28_3
                  try clear hfz28_4
                  try clear hfz28_5
                  obtain ⟨x7_2, rfl, HA, HK2, HO_5, HO_6, HO_290000, HO_290001, HO_291000, HO_291001, BK289, BK290, HB⟩ := hrel
                  cases gk with
                  | zero => exact absurd HA.out (by simp [cobwebref11_Same.l0])
                  | succ k2 =>
                    have H := HA.out
                    clear HA
                    simp only [cobwebref11_Same.l0] at H
                    by_cases c44 : x7_2 < (y297.length : Int)
                    · rw [if_pos c44] at H
                      have c44b0 : decide (x7_2 < (y297.length : Int)) = true := decide_eq_true c44
                      clear c44
                      by_cases c45 : 0 ≤ x7_2
                      · rw [if_pos c45] at H
                        have c45b0 : decide (0 ≤ x7_2) = true := decide_eq_true c45
                        clear c45
                        by_cases c46 : x7_2 < (y306.length : Int)
                        · rw [if_pos c46] at H
                          have c46b0 : decide (x7_2 < (y306.length : Int)) = true := decide_eq_true c46
                          clear c46
                          by_cases c47 : ((rd_L2 y297 x7_2).length : Int) = ((rd_L2 y306 x7_2).length : Int)
                          · rw [if_pos c47] at H
                            have c47b0 : (((rd_L2 y297 x7_2).length : Int) == ((rd_L2 y306 x7_2).length : Int)) = true := beq_iff_eq.mpr c47
                            have c47b1 : (((rd_L2 y297 x7_2).length : Int) != ((rd_L2 y306 x7_2).length : Int)) = false := bne_eq_false_iff_eq.mpr c47
                            have c47b2 : ((rd_L2 y297 x7_2).length == (rd_L2 y306 x7_2).length) = true := by first | simpa using c47 | (simp at c47 ⊢; omega)
                            clear c47
                            have H' := Aside0.mk H
                            clear H
                            obtain ⟨Ao48, co48, eo48⟩ := Kd.N_slice HO_5.out
                            subst eo48
                            try go_wp2
                            have n0_ := Aside0.mk (Kd.N_drew HO_5.out)
                            have n1_ := Aside0.mk (Kd.N_drew HO_6.out)
                            have n2_ := Aside0.mk (Kd.V_drew HO_290000.out)
                            have n3_ := Aside0.mk (Kd.V_drew HO_290001.out)
                            have n4_ := Aside0.mk (Kd.V_drew HO_291000.out)
                            have n5_ := Aside0.mk (Kd.V_drew HO_291001.out)
                            have n6_ := Aside0.mk (blk_drew BK289.out)
                            have n7_ := Aside0.mk (blk_drew BK290.out)
                            have n8_ := Aside0.mk (below_drew1 HB.out)
                            clear HO_5
                            clear HO_6
                            clear HO_290000
                            clear HO_290001
                            clear HO_291000
                            clear HO_291001
                            clear BK289
                            clear BK290
                            clear HB
                            have HO_5 := n0_
                            have HO_6 := n1_
                            have HO_290000 := n2_
                            have HO_290001 := n3_
                            have HO_291000 := n4_
                            have HO_291001 := n5_
                            have BK289 := n6_
                            have BK290 := n7_
                            have HB := n8_
                            clear n0_ n1_ n2_ n3_ n4_ n5_ n6_ n7_ n8_
                            have p309 : 0 ≤ (x7_2 : Int) := of_decide_eq_true (by first | (with_reducible assumption) | assumption)
                            have q309 : x7_2 < (y297.length : Int) := of_decide_eq_true (by first | (with_reducible assumption) | assumption)
                            obtain ⟨ad309, A309_0, c309_0, e309, hx309_0, hl309_0, hi309_0⟩ := at_L2 (Kd.N_reads' HO_5.out).2.2 x7_2 p309 q309
                            cases e309
                            obtain ⟨ce309, hce309, hMe309, hcc309⟩ := Kd.N_get HO_5.out [] x7_2 p309 (by first | exact q309 | exact of_decide_eq_true (by first | (with_reducible assumption) | assumption) | (have e_ := (Kd.N_reads' HO_5.out).1; omega))
                            obtain ⟨ua309_0, uc309_0, rfl, ul309_0, ge309_0⟩ := Kd.FK_slice_open hMe309
                            have hv309_0 := hcc309 0 _ rfl
                            rw [Nat.add_zero, show ((Kd.slice 23 k23)).sz = 1 from rfl, Nat.mul_one] at hv309_0
                            replace hv309_0 := Option.some.inj (hv309_0.symm.trans hx309_0)
                            injection hv309_0 with hva_ hvn_ hvc_
                            rw [hva_] at ge309_0
                            rw [hvc_] at ul309_0
                            have HL309_0 := Aside0.mk (show Kd.V k23 23 _ w.heap.size _ _ (rd_L2 y297 x7_2) from Kd.V_mk ul309_0 ge309_0)
                            clear hva_ hvn_ hvc_ ge309_0 ul309_0
                            clear hcc309 hce309
                            have HR309_0 := Aside0.mk hi309_0
                            have HC309_0 := Aside0.mk hl309_0
                            clear hi309_0 hl309_0
                            replace p309 := eq_true p309
                            replace q309 := eq_true q309
                            obtain ⟨Ao50, co50, eo50⟩ := Kd.N_slice HO_6.out
                            (first | subst eo50 | (injection eo50 with f1_ f2_ f3_; have f4_ := f1_.symm; have f5_ := f3_.symm; clear f1_ f2_ f3_; subst f4_; subst f5_))
                            have p310 : 0 ≤ (x7_2 : Int) := of_decide_eq_true (by first | (with_reducible assumption) | assumption)
                            have q310 : x7_2 < (y306.length : Int) := of_decide_eq_true (by first | (with_reducible assumption) | assumption)
                            obtain ⟨ad310, A310_0, c310_0, e310, hx310_0, hl310_0, hi310_0⟩ := at_L2 (Kd.N_reads' HO_6.out).2.2 x7_2 p310 q310
                            cases e310
                            obtain ⟨ce310, hce310, hMe310, hcc310⟩ := Kd.N_get HO_6.out [] x7_2 p310 (by first | exact q310 | exact of_decide_eq_true (by first | (with_reducible assumption) | assumption) | (have e_ := (Kd.N_reads' HO_6.out).1; omega))
                            obtain ⟨ua310_0, uc310_0, rfl, ul310_0, ge310_0⟩ := Kd.FK_slice_open hMe310
                            have hv310_0 := hcc310 0 _ rfl
                            rw [Nat.add_zero, show ((Kd.slice 23 k23)).sz = 1 from rfl, Nat.mul_one] at hv310_0
                            replace hv310_0 := Option.some.inj (hv310_0.symm.trans hx310_0)
                            injection hv310_0 with hva_ hvn_ hvc_
                            rw [hva_] at ge310_0
                            rw [hvc_] at ul310_0
                            have HL310_0 := Aside0.mk (show Kd.V k23 23 _ w.heap.size _ _ (rd_L2 y306 x7_2) from Kd.V_mk ul310_0 ge310_0)
                            clear hva_ hvn_ hvc_ ge310_0 ul310_0
                            clear hcc310 hce310
                            have HR310_0 := Aside0.mk hi310_0
                            have HC310_0 := Aside0.mk hl310_0
                            clear hi310_0 hl310_0
                            replace p310 := eq_true p310
                            replace q310 := eq_true q310
                            refine start_ (n := 11) (S := fun w' => w'.cell? (ad309.add (x7_2).toNat) = some (.slice A309_0 (rd_L2 y297 x7_2).length c309_0) ∧ w'.cell? (ad310.add (x7_2).toNat) = some (.slice A310_0 (rd_L2 y306 x7_2).length c310_0)) (ds := []) #[false, false, false, false, false, false, false, false, false, false, false] (by kernel_rfl) rfl rfl ⟨hx309_0, hx310_0⟩ (fun hHeld => ?_); refine with_tabW cobwebref11_Same.tab8 cobwebref11_Same.bits8 (fun HT_ HW_ => ?_)
                            generalize wr.drew = w49 at HO_5 HO_6 HO_290000 HO_290001 HO_291000 HO_291001 BK289 BK290 HB HL309_0 HL310_0 HR309_0 HR310_0 hx309_0 hx310_0 hHeld ⊢
                            refine pure_ (i := 0) (N := some 73) (v := ?_) (a' := ?_) #[true, false, false, false, false, false, false, false, false, false, false] rfl rfl (any_of HT_.out (by kernel_rfl)) (fun _ _ _ h => h) (Or.inl ⟨by rfl, ?_⟩) ?_ ?_
                            rotate_left
                            · intro w'
                              go_simp
                              with_reducible rfl
                            rotate_left
                            · simp only [Act.put, List.setIfInBounds_toArray, List.set_cons_zero, List.set_cons_succ, i64_w, i32_w]
                              rfl
                            refine pure_ (i := 1) (N := some 74) (v := ?_) (a' := ?_) #[true, true, false, false, false, false, false, false, false, false, false] rfl rfl (any_of HT_.out (by kernel_rfl)) (fun _ _ _ h => h) (Or.inl ⟨by rfl, ?_⟩) ?_ ?_
                            rotate_left
                            · intro w'
                              go_simp
                              with_reducible rfl
                            rotate_left
                            · simp only [Act.put, List.setIfInBounds_toArray, List.set_cons_zero, List.set_cons_succ, i64_w, i32_w]
                              rfl
                            refine pure_ (i := 2) (N := some 75) (v := ?_) (a' := ?_) #[true, true, true, false, false, false, false, false, false, false, false] rfl rfl (any_of HT_.out (by kernel_rfl)) (fun _ _ _ h => h) (Or.inl ⟨by rfl, ?_⟩) ?_ ?_
                            rotate_left
                            · intro w'
                              go_simp
                              with_reducible rfl
                            rotate_left
                            · simp only [Act.put, List.setIfInBounds_toArray, List.set_cons_zero, List.set_cons_succ, i64_w, i32_w]
                              rfl
                            refine pure_ (i := 5) (N := some 78) (v := ?_) (a' := ?_) #[true, true, true, false, false, true, false, false, false, false, false] rfl rfl (any_of HT_.out (by kernel_rfl)) (fun _ _ _ h => h) (Or.inl ⟨by rfl, ?_⟩) ?_ ?_
                            rotate_left
                            · intro w'
                              go_simp
                              with_reducible rfl
                            rotate_left
                            · simp only [Act.put, List.setIfInBounds_toArray, List.set_cons_zero, List.set_cons_succ, i64_w, i32_w]
                              rfl
                            refine pure_ (i := 6) (N := some 79) (v := ?_) (a' := ?_) #[true, true, true, false, false, true, true, false, false, false, false] rfl rfl (any_of HT_.out (by kernel_rfl)) (fun _ _ _ h => h) (Or.inl ⟨by rfl, ?_⟩) ?_ ?_
                            rotate_left
                            · intro w'
                              go_simp
                              with_reducible rfl
                            rotate_left
                            · simp only [Act.put, List.setIfInBounds_toArray, List.set_cons_zero, List.set_cons_succ, i64_w, i32_w]
                              rfl
                            refine pure_ (i := 7) (N := some 80) (v := ?_) (a' := ?_) #[true, true, true, false, false, true, true, true, false, false, false] rfl rfl (any_of HT_.out (by kernel_rfl)) (fun _ _ _ h => h) (Or.inl ⟨by rfl, ?_⟩) ?_ ?_
                            rotate_left
                            · intro w'
                              go_simp
                              with_reducible rfl
                            rotate_left
                            · simp only [Act.put, List.setIfInBounds_toArray, List.set_cons_zero, List.set_cons_succ, i64_w, i32_w]
                              rfl
                            refine take_ (i := 3) (N := some 76) (v := ?_) (a' := ?_) #[true, true, true, true, false, true, true, true, false, false, false] rfl rfl (take_ofW HT_.out HW_.out (by kernel_rfl)) (fun _ _ _ h => h) (Or.inl ⟨by rfl, ?_⟩) hHeld ?_ ?_
                            rotate_left
                            · rintro w' ⟨s0, s1⟩
                              go_simp
                              with_reducible rfl
                            rotate_left
                            · simp only [Act.put, List.setIfInBounds_toArray, List.set_cons_zero, List.set_cons_succ, i64_w, i32_w]
                              rfl
                            refine pure_ (i := 4) (N := some 77) (v := ?_) (a' := ?_) #[true, true, true, true, true, true, true, true, false, false, false] rfl rfl (any_of HT_.out (by kernel_rfl)) (fun _ _ _ h => h) (Or.inl ⟨by rfl, ?_⟩) ?_ ?_
                            rotate_left
                            · intro w'
                              go_simp
                              with_reducible rfl
                            rotate_left
                            · simp only [Act.put, List.setIfInBounds_toArray, List.set_cons_zero, List.set_cons_succ, i64_w, i32_w]
                              rfl
                            refine take_ (i := 8) (N := some 81) (v := ?_) (a' := ?_) #[true, true, true, true, true, true, true, true, true, false, false] rfl rfl (take_ofW HT_.out HW_.out (by kernel_rfl)) (fun _ _ _ h => h) (Or.inl ⟨by rfl, ?_⟩) hHeld ?_ ?_
                            rotate_left
                            · rintro w' ⟨s0, s1⟩
                              go_simp
                              with_reducible rfl
                            rotate_left
                            · simp only [Act.put, List.setIfInBounds_toArray, List.set_cons_zero, List.set_cons_succ, i64_w, i32_w]
                              rfl
                            refine pure_ (i := 9) (N := some 82) (v := ?_) (a' := ?_) #[true, true, true, true, true, true, true, true, true, true, false] rfl rfl (any_of HT_.out (by kernel_rfl)) (fun _ _ _ h => h) (Or.inl ⟨by rfl, ?_⟩) ?_ ?_
                            rotate_left
                            · intro w'
                              go_simp
                              with_reducible rfl
                            rotate_left
                            · simp only [Act.put, List.setIfInBounds_toArray, List.set_cons_zero, List.set_cons_succ, i64_w, i32_w]
                              rfl
                            refine pure_ (i := 10) (N := some 83) (v := ?_) (a' := ?_) #[true, true, true, true, true, true, true, true, true, true, true] rfl rfl (any_of HT_.out (by kernel_rfl)) (fun _ _ _ h => h) (Or.inl ⟨by rfl, ?_⟩) ?_ ?_
                            rotate_left
                            · intro w'
                              go_simp
                              with_reducible rfl
                            rotate_left
                            · simp only [Act.put, List.setIfInBounds_toArray, List.set_cons_zero, List.set_cons_succ, i64_w, i32_w]
                              rfl
                            refine done_ (done_of HT_.out (by kernel_rfl)) ?_
                            try go_wp2
                            go_loopg [8] k2 (fun kq v8 w' => ∃ (x8_3 : Int), v8 = .int .i64 x8_3 ∧ Aside0 (cobwebref11_Same.l1 kq y297 y306 x7_2 x8_3 = some r) ∧ Aside0 (kq ≤ k2) ∧ Aside0 (Kd.N (Kd.slice 23 k23) 47 w' w.heap.size (fun k_ => ((P0_0_ k_ ∨ P0_1_ k_ ∨ P1_0_ k_ ∨ P1_1_ k_) ∨ w.heap.size ≤ k_) ∧ some k_ ≠ ((.slice (some ad310) y306.length co50) : Value).ownBlock ∧ k_ ≠ gb289 ∧ k_ ≠ gb290) (.slice (some ad309) y297.length co48) y297) ∧ Aside0 (Kd.N (Kd.slice 23 k23) 47 w' w.heap.size (fun k_ => ((P0_0_ k_ ∨ P0_1_ k_ ∨ P1_0_ k_ ∨ P1_1_ k_) ∨ w.heap.size ≤ k_) ∧ some k_ ≠ ((.slice (some ad309) y297.length co48) : Value).ownBlock ∧ k_ ≠ gb289 ∧ k_ ≠ gb290) (.slice (some ad310) y306.length co50) y306) ∧ Aside0 (Kd.V (Kd.slice 23 k23) 47 w' w.heap.size (fun k_ => ((P0_0_ k_ ∨ P0_1_ k_ ∨ P1_0_ k_ ∨ P1_1_ k_) ∨ w.heap.size ≤ k_) ∧ some k_ ≠ ((.slice (some ad309) y297.length co48) : Value).ownBlock ∧ some k_ ≠ ((.slice (some ad310) y306.length co50) : Value).ownBlock ∧ k_ ≠ gb289 ∧ k_ ≠ gb290) (.slice A0_0 l0_0.length c0_0) l0_0) ∧ Aside0 (Kd.V (Kd.slice 23 k23) 47 w' w.heap.size (fun k_ => ((P0_0_ k_ ∨ P0_1_ k_ ∨ P1_0_ k_ ∨ P1_1_ k_) ∨ w.heap.size ≤ k_) ∧ some k_ ≠ ((.slice (some ad309) y297.length co48) : Value).ownBlock ∧ some k_ ≠ ((.slice (some ad310) y306.length co50) : Value).ownBlock ∧ k_ ≠ gb289 ∧ k_ ≠ gb290) (.slice A0_1 l0_1.length c0_1) l0_1) ∧ Aside0 (Kd.V (Kd.slice 23 k23) 47 w' w.heap.size (fun k_ => ((P0_0_ k_ ∨ P0_1_ k_ ∨ P1_0_ k_ ∨ P1_1_ k_) ∨ w.heap.size ≤ k_) ∧ some k_ ≠ ((.slice (some ad309) y297.length co48) : Value).ownBlock ∧ some k_ ≠ ((.slice (some ad310) y306.length co50) : Value).ownBlock ∧ k_ ≠ gb289 ∧ k_ ≠ gb290) (.slice A1_0 l1_0.length c1_0) l1_0) ∧ Aside0 (Kd.V (Kd.slice 23 k23) 47 w' w.heap.size (fun k_ => ((P0_0_ k_ ∨ P0_1_ k_ ∨ P1_0_ k_ ∨ P1_1_ k_) ∨ w.heap.size ≤ k_) ∧ some k_ ≠ ((.slice (some ad309) y297.length co48) : Value).ownBlock ∧ some k_ ≠ ((.slice (some ad310) y306.length co50) : Value).ownBlock ∧ k_ ≠ gb289 ∧ k_ ≠ gb290) (.slice A1_1 l1_1.length c1_1) l1_1) ∧ Aside0 (w'.heap[gb289]? = some (.cells #[(.slice A0_0 l0_0.length c0_0), (.slice A0_1 l0_1.length c0_1), .int .i64 a0_2, .int .i64 a0_3, .int .i64 a0_4, .int .i64 a0_5] 37 (0, 0))) ∧ Aside0 (w'.heap[gb290]? = some (.cells #[(.slice A1_0 l1_0.length c1_0), (.slice A1_1 l1_1.length c1_1), .int .i64 a1_2, .int .i64 a1_3, .int .i64 a1_4, .int .i64 a1_5] 37 (0, 0))) ∧ Aside0 (Kd.C k23 w' A309_0 (rd_L2 y297 x7_2).length (rd_L2 y297 x7_2)) ∧ Aside0 (Kd.C k23 w' A310_0 (rd_L2 y306 x7_2).length (rd_L2 y306 x7_2)) ∧ Aside0 (Below w.heap.size w w'))
                            case atStart => exact ⟨(0), (by first | rfl | (simp; done) | (simp [*]; done)), H', ⟨Nat.le_refl _⟩, ⟨by (with_reducible repeat (first | apply Kd.N_alloc | apply Kd.N_drewN | apply Kd.N_drew)); exact HO_5.out⟩, ⟨by (with_reducible repeat (first | apply Kd.N_alloc | apply Kd.N_drewN | apply Kd.N_drew)); exact HO_6.out⟩, ⟨by (with_reducible repeat (first | apply Kd.V_alloc | apply Kd.V_drewN | apply Kd.V_drew)); exact HO_290000.out⟩, ⟨by (with_reducible repeat (first | apply Kd.V_alloc | apply Kd.V_drewN | apply Kd.V_drew)); exact HO_290001.out⟩, ⟨by (with_reducible repeat (first | apply Kd.V_alloc | apply Kd.V_drewN | apply Kd.V_drew)); exact HO_291000.out⟩, ⟨by (with_reducible repeat (first | apply Kd.V_alloc | apply Kd.V_drewN | apply Kd.V_drew)); exact HO_291001.out⟩, ⟨by (with_reducible repeat (first | refine blk_drewN ?_ _ | refine blk_drew ?_ | refine blk_alloc ?_ _)); exact BK289.out⟩, ⟨by (with_reducible repeat (first | refine blk_drewN ?_ _ | refine blk_drew ?_ | refine blk_alloc ?_ _)); exact BK290.out⟩, ⟨by repeat (first | (with_reducible exact HR309_0.out) | (with_reducible refine Kd.C_alloc ?_ _) | (with_reducible refine Kd.C_drewN ?_ _) | (with_reducible refine Kd.C_drew ?_) | exact HR309_0.out)⟩, ⟨by repeat (first | (with_reducible exact HR310_0.out) | (with_reducible refine Kd.C_alloc ?_ _) | (with_reducible refine Kd.C_drewN ?_ _) | (with_reducible refine Kd.C_drew ?_) | exact HR310_0.out)⟩, ⟨by repeat (first | (with_reducible first | exact HB.out | apply below_alloc | apply pw_below_drewN | apply below_drew1 | refine below_set ?_ GE289.out | refine below_set ?_ GE290.out) | exact HB.out)⟩⟩
                            case round =>
                              clear H'
                              try clear c1
                              try clear c2
                              try clear p2
                              try clear c3
                              try clear p3
                              try clear q3
                              try clear hx3
                              try clear c4
                              try clear c29
                              try clear c30
                              try clear p30
                              try clear q30
                              try clear hx30
                              try clear c31
                              try clear p31
                              try clear q31
                              try clear hx31
                              try clear c32
                              try clear c33
                              try clear c44
                              try clear c44b0
                              try clear c45
                              try clear c45b0
                              try clear c46
                              try clear c46b0
                              try clear c47
                              try clear c47b0
                              try clear c47b1
                              try clear c47b2
                              try clear hcz12_4
                              try clear hcz12_5
                              try clear hcz13_0
                              try clear hcz13_1
                              try clear hcz13_2
                              try clear hcz13_3
                              try clear hcz13_4
                              try clear hcz13_5
                              try clear hcz15_0
                              try clear hcz15_1
                              try clear hcz15_2
                              try clear hcz15_3
                              try clear hcz15_4
                              try clear hcz15_5
                              try clear hcz16_0
                              try clear hcz16_1
                              try clear hcz16_2
                              try clear hcz16_3
                              try clear hcz16_4
                              try clear hcz16_5
                              try clear hcz18_0
                              try clear hcz18_1
                              try clear hcz18_2
                              try clear hcz18_3
                              try clear hcz18_4
                              try clear hcz18_5
                              try clear hcz19_0
                              try clear hcz19_1
                              try clear hcz19_2
                              try clear hcz19_3
                              try clear hcz19_4
                              try clear hcz19_5
                              try clear hcz21_0
                              try clear hcz21_1
                              try clear hcz21_2
                              try clear hcz21_3
                              try clear hcz21_4
                              try clear hcz21_5
                              try clear hcz22_0
                              try clear hcz22_1
                              try clear hcz22_2
                              try clear hcz22_3
                              try clear hcz22_4
                              try clear hcz22_5
                              try clear hcz24_0
                              try clear hcz24_1
                              try clear hcz24_2
                              try clear hcz24_3
                              try clear hcz24_4
                              try clear hcz24_5
                              try clear hcz25_0
                              try clear hcz25_1
                              try clear hcz25_2
                              try clear hcz25_3
                              try clear hcz25_4
                              try clear hcz25_5
                              try clear hcz27_0
                              try clear hcz27_1
                              try clear hcz27_2
                              try clear hcz27_3
                              try clear hcz27_4
                              try clear hcz27_5
                              try clear hcz28_0
                              try clear hcz28_1
                              try clear hcz28_2
                              try clear hcz28_3
                              try clear hcz28_4
                              try clear hcz28_5
                              try clear hfz12_0
                              try clear hfz12_1
                              try clear hfz12_2
                              try clear hfz12_3
                              try clear hfz12_4
                              try clear hfz12_5
                              try clear hfz13_0
                              try clear hfz13_1
                              try clear hfz13_2
                              try clear hfz13_3
                              try clear hfz13_4
                              try clear hfz13_5
                              try clear hfz15_0
                              try clear hfz15_1
                              try clear hfz15_2
                              try clear hfz15_3
                              try clear hfz15_4
                              try clear hfz15_5
                              try clear hfz16_0
                              try clear hfz16_1
                              try clear hfz16_2
                              try clear hfz16_3
                              try clear hfz16_4
                              try clear hfz16_5
                              try clear hfz18_0
                              try clear hfz18_1
                              try clear hfz18_2
                              try clear hfz18_3
                              try clear hfz18_4
                              try clear hfz18_5
                              try clear hfz19_0
                              try clear hfz19_1
                              try clear hfz19_2
                              try clear hfz19_3
                              try clear hfz19_4
                              try clear hfz19_5
                              try clear hfz21_0
                              try clear hfz21_1
                              try clear hfz21_2
                              try clear hfz21_3
                              try clear hfz21_4
                              try clear hfz21_5
                              try clear hfz22_0
                              try clear hfz22_1
                              try clear hfz22_2
                              try clear hfz22_3
                              try clear hfz22_4
                              try clear hfz22_5
                              try clear hfz24_0
                              try clear hfz24_1
                              try clear hfz24_2
                              try clear hfz24_3
                              try clear hfz24_4
                              try clear hfz24_5
                              try clear hfz25_0
                              try clear hfz25_1
                              try clear hfz25_2
                              try clear hfz25_3
                              try clear hfz25_4
                              try clear hfz25_5
                              try clear hfz27_0
                              try clear hfz27_1
                              try clear hfz27_2
                              try clear hfz27_3
                              try clear hfz27_4
                              try clear hfz27_5
                              try clear hfz28_0
                              try clear hfz28_1
                              try clear hfz28_2
                              try clear hfz28_3
                              try clear hfz28_4
                              try clear hfz28_5
                              try clear hx309_0
                              try clear hx310_0
                              try clear p2
                              try clear p309
                              try clear p310
                              try clear q309
                              try clear q310
                              obtain ⟨x8_3, rfl, HA, HK3, HO_5, HO_6, HO_290000, HO_290001, HO_291000, HO_291001, BK289, BK290, HR309_0, HR310_0, HB⟩ := hrel
                              cases gk with
                              | zero => exact absurd HA.out (by simp [cobwebref11_Same.l1])
                              | succ k3 =>
                                have H := HA.out
                                clear HA
                                simp only [cobwebref11_Same.l1] at H
                                by_cases c51 : 0 ≤ x7_2
                                · rw [if_pos c51] at H
                                  have c51b0 : decide (0 ≤ x7_2) = true := decide_eq_true c51
                                  clear c51
                                  by_cases c52 : x7_2 < (y297.length : Int)
                                  · rw [if_pos c52] at H
                                    have c52b0 : decide (x7_2 < (y297.length : Int)) = true := decide_eq_true c52
                                    clear c52
                                    by_cases c53 : x8_3 < ((rd_L2 y297 x7_2).length : Int)
                                    · rw [if_pos c53] at H
                                      have c53b0 : decide (x8_3 < ((rd_L2 y297 x7_2).length : Int)) = true := decide_eq_true c53
                                      clear c53
                                      by_cases c54 : 0 ≤ x8_3
                                      · rw [if_pos c54] at H
                                        have c54b0 : decide (0 ≤ x8_3) = true := decide_eq_true c54
                                        clear c54
                                        by_cases c55 : x7_2 < (y306.length : Int)
                                        · rw [if_pos c55] at H
                                          have c55b0 : decide (x7_2 < (y306.length : Int)) = true := decide_eq_true c55
                                          clear c55
                                          by_cases c56 : x8_3 < ((rd_L2 y306 x7_2).length : Int)
                                          · rw [if_pos c56] at H
                                            have c56b0 : decide (x8_3 < ((rd_L2 y306 x7_2).length : Int)) = true := decide_eq_true c56
                                            clear c56
                                            by_cases c57 : (!(((rd_T23 (rd_L2 y297 x7_2) x8_3).f0) == ((rd_T23 (rd_L2 y306 x7_2) x8_3).f0)) || (!(((rd_T23 (rd_L2 y297 x7_2) x8_3).f1) == ((rd_T23 (rd_L2 y306 x7_2) x8_3).f1)))) = true
                                            · rw [if_pos c57] at H
                                              have c57b0 : (!(((rd_T23 (rd_L2 y297 x7_2) x8_3).f0) == ((rd_T23 (rd_L2 y306 x7_2) x8_3).f0)) || (!(((rd_T23 (rd_L2 y297 x7_2) x8_3).f1) == ((rd_T23 (rd_L2 y306 x7_2) x8_3).f1)))) = true := c57
                                              clear c57
                                              obtain rfl := Option.some.inj H
                                              have p311 : 0 ≤ (x7_2 : Int) := of_decide_eq_true (by first | (with_reducible assumption) | assumption)
                                              have q311 : x7_2 < (y297.length : Int) := of_decide_eq_true (by first | (with_reducible assumption) | assumption)
                                              obtain ⟨ad311, A311_0, c311_0, e311, hx311_0, hl311_0, hi311_0⟩ := at_L2 (Kd.N_reads' HO_5.out).2.2 x7_2 p311 q311
                                              obtain rfl : ad309 = ad311 := (by injection e311)
                                              obtain ⟨ce311, hce311, hMe311, hcc311⟩ := Kd.N_get HO_5.out [] x7_2 p311 (by first | exact q311 | exact of_decide_eq_true (by first | (with_reducible assumption) | assumption) | (have e_ := (Kd.N_reads' HO_5.out).1; omega))
                                              obtain ⟨ua311_0, uc311_0, rfl, ul311_0, ge311_0⟩ := Kd.FK_slice_open hMe311
                                              have hv311_0 := hcc311 0 _ rfl
                                              rw [Nat.add_zero, show ((Kd.slice 23 k23)).sz = 1 from rfl, Nat.mul_one] at hv311_0
                                              replace hv311_0 := Option.some.inj (hv311_0.symm.trans hx311_0)
                                              injection hv311_0 with hva_ hvn_ hvc_
                                              rw [hva_] at ge311_0
                                              rw [hvc_] at ul311_0
                                              have HL311_0 := Aside0.mk (show Kd.V k23 23 _ w.heap.size _ _ (rd_L2 y297 x7_2) from Kd.V_mk ul311_0 ge311_0)
                                              clear hva_ hvn_ hvc_ ge311_0 ul311_0
                                              clear hcc311 hce311
                                              have HR311_0 := Aside0.mk hi311_0
                                              have HC311_0 := Aside0.mk hl311_0
                                              clear hi311_0 hl311_0
                                              replace p311 := eq_true p311
                                              replace q311 := eq_true q311
                                              try go_wp2
                                              have n0_ := Aside0.mk (Kd.N_drew HO_5.out)
                                              have n1_ := Aside0.mk (Kd.N_drew HO_6.out)
                                              have n2_ := Aside0.mk (Kd.V_drew HO_290000.out)
                                              have n3_ := Aside0.mk (Kd.V_drew HO_290001.out)
                                              have n4_ := Aside0.mk (Kd.V_drew HO_291000.out)
                                              have n5_ := Aside0.mk (Kd.V_drew HO_291001.out)
                                              have n6_ := Aside0.mk (Kd.V_drew HL311_0.out)
                                              have n7_ := Aside0.mk (blk_drew BK289.out)
                                              have n8_ := Aside0.mk (blk_drew BK290.out)
                                              have n9_ := Aside0.mk (Kd.C_drew HR309_0.out)
                                              have n10_ := Aside0.mk (Kd.C_drew HR310_0.out)
                                              have n11_ := Aside0.mk (Kd.C_drew HR311_0.out)
                                              have n12_ := Aside0.mk (below_drew1 HB.out)
                                              clear HO_5
                                              clear HO_6
                                              clear HO_290000
                                              clear HO_290001
                                              clear HO_291000
                                              clear HO_291001
                                              clear HL311_0
                                              clear BK289
                                              clear BK290
                                              clear HR309_0
                                              clear HR310_0
                                              clear HR311_0
                                              clear HB
                                              have HO_5 := n0_
                                              have HO_6 := n1_
                                              have HO_290000 := n2_
                                              have HO_290001 := n3_
                                              have HO_291000 := n4_
                                              have HO_291001 := n5_
                                              have HL311_0 := n6_
                                              have BK289 := n7_
                                              have BK290 := n8_
                                              have HR309_0 := n9_
                                              have HR310_0 := n10_
                                              have HR311_0 := n11_
                                              have HB := n12_
                                              clear n0_ n1_ n2_ n3_ n4_ n5_ n6_ n7_ n8_ n9_ n10_ n11_ n12_
                                              have p312 : 0 ≤ (x7_2 : Int) := of_decide_eq_true (by first | (with_reducible assumption) | assumption)
                                              have q312 : x7_2 < (y297.length : Int) := of_decide_eq_true (by first | (with_reducible assumption) | assumption)
                                              obtain ⟨ad312, A312_0, c312_0, e312, hx312_0, hl312_0, hi312_0⟩ := at_L2 (Kd.N_reads' HO_5.out).2.2 x7_2 p312 q312
                                              obtain rfl : ad309 = ad312 := (by injection e312)
                                              obtain ⟨ce312, hce312, hMe312, hcc312⟩ := Kd.N_get HO_5.out [] x7_2 p312 (by first | exact q312 | exact of_decide_eq_true (by first | (with_reducible assumption) | assumption) | (have e_ := (Kd.N_reads' HO_5.out).1; omega))
                                              obtain ⟨ua312_0, uc312_0, rfl, ul312_0, ge312_0⟩ := Kd.FK_slice_open hMe312
                                              have hv312_0 := hcc312 0 _ rfl
                                              rw [Nat.add_zero, show ((Kd.slice 23 k23)).sz = 1 from rfl, Nat.mul_one] at hv312_0
                                              replace hv312_0 := Option.some.inj (hv312_0.symm.trans hx312_0)
                                              injection hv312_0 with hva_ hvn_ hvc_
                                              rw [hva_] at ge312_0
                                              rw [hvc_] at ul312_0
                                              have HL312_0 := Aside0.mk (show Kd.V k23 23 _ w.heap.size _ _ (rd_L2 y297 x7_2) from Kd.V_mk ul312_0 ge312_0)
                                              clear hva_ hvn_ hvc_ ge312_0 ul312_0
                                              clear hcc312 hce312
                                              have HR312_0 := Aside0.mk hi312_0
                                              have HC312_0 := Aside0.mk hl312_0
                                              clear hi312_0 hl312_0
                                              replace p312 := eq_true p312
                                              replace q312 := eq_true q312
                                              have p313 : 0 ≤ (x8_3 : Int) := of_decide_eq_true (by first | (with_reducible assumption) | assumption)
                                              have q313 : x8_3 < ((rd_L2 y297 x7_2).length : Int) := of_decide_eq_true (by first | (with_reducible assumption) | assumption)
                                              obtain ⟨ad313, e313, hx313_0, hx313_1⟩ := at_T23 (by repeat (first | (with_reducible exact HR312_0.out) | (with_reducible refine Kd.C_alloc ?_ _) | (with_reducible refine Kd.C_drewN ?_ _) | (with_reducible refine Kd.C_drew ?_) | exact HR312_0.out)) x8_3 p313 q313
                                              cases e313
                                              replace p313 := eq_true p313
                                              replace q313 := eq_true q313
                                              have p314 : 0 ≤ (x7_2 : Int) := of_decide_eq_true (by first | (with_reducible assumption) | assumption)
                                              have q314 : x7_2 < (y306.length : Int) := of_decide_eq_true (by first | (with_reducible assumption) | assumption)
                                              obtain ⟨ad314, A314_0, c314_0, e314, hx314_0, hl314_0, hi314_0⟩ := at_L2 (Kd.N_reads' HO_6.out).2.2 x7_2 p314 q314
                                              obtain rfl : ad310 = ad314 := (by injection e314)
                                              obtain ⟨ce314, hce314, hMe314, hcc314⟩ := Kd.N_get HO_6.out [] x7_2 p314 (by first | exact q314 | exact of_decide_eq_true (by first | (with_reducible assumption) | assumption) | (have e_ := (Kd.N_reads' HO_6.out).1; omega))
                                              obtain ⟨ua314_0, uc314_0, rfl, ul314_0, ge314_0⟩ := Kd.FK_slice_open hMe314
                                              have hv314_0 := hcc314 0 _ rfl
                                              rw [Nat.add_zero, show ((Kd.slice 23 k23)).sz = 1 from rfl, Nat.mul_one] at hv314_0
                                              replace hv314_0 := Option.some.inj (hv314_0.symm.trans hx314_0)
                                              injection hv314_0 with hva_ hvn_ hvc_
                                              rw [hva_] at ge314_0
                                              rw [hvc_] at ul314_0
                                              have HL314_0 := Aside0.mk (show Kd.V k23 23 _ w.heap.size _ _ (rd_L2 y306 x7_2) from Kd.V_mk ul314_0 ge314_0)
                                              clear hva_ hvn_ hvc_ ge314_0 ul314_0
                                              clear hcc314 hce314
                                              have HR314_0 := Aside0.mk hi314_0
                                              have HC314_0 := Aside0.mk hl314_0
                                              clear hi314_0 hl314_0
                                              replace p314 := eq_true p314
                                              replace q314 := eq_true q314
                                              have p315 : 0 ≤ (x8_3 : Int) := of_decide_eq_true (by first | (with_reducible assumption) | assumption)
                                              have q315 : x8_3 < ((rd_L2 y306 x7_2).length : Int) := of_decide_eq_true (by first | (with_reducible assumption) | assumption)
                                              obtain ⟨ad315, e315, hx315_0, hx315_1⟩ := at_T23 (by repeat (first | (with_reducible exact HR314_0.out) | (with_reducible refine Kd.C_alloc ?_ _) | (with_reducible refine Kd.C_drewN ?_ _) | (with_reducible refine Kd.C_drew ?_) | exact HR314_0.out)) x8_3 p315 q315
                                              cases e315
                                              replace p315 := eq_true p315
                                              replace q315 := eq_true q315
                                              refine start_ (n := 15) (S := fun w' => w'.cell? (ad309.add (x7_2).toNat) = some (.slice (some ad313) (rd_L2 y297 x7_2).length c312_0) ∧ w'.cell? (ad313.add ((x8_3).toNat * 2)) = some (.int .i64 ((rd_T23 (rd_L2 y297 x7_2) x8_3).f0)) ∧ w'.cell? ⟨(ad313.add ((x8_3).toNat * 2)).block, (ad313.add ((x8_3).toNat * 2)).off + 1, none⟩ = some (.int .i64 ((rd_T23 (rd_L2 y297 x7_2) x8_3).f1)) ∧ w'.cell? (ad310.add (x7_2).toNat) = some (.slice (some ad315) (rd_L2 y306 x7_2).length c314_0) ∧ w'.cell? (ad315.add ((x8_3).toNat * 2)) = some (.int .i64 ((rd_T23 (rd_L2 y306 x7_2) x8_3).f0)) ∧ w'.cell? ⟨(ad315.add ((x8_3).toNat * 2)).block, (ad315.add ((x8_3).toNat * 2)).off + 1, none⟩ = some (.int .i64 ((rd_T23 (rd_L2 y306 x7_2) x8_3).f1))) (ds := []) #[false, false, false, false, false, false, false, false, false, false, false, false, false, false, false] (by kernel_rfl) rfl rfl ⟨hx312_0, hx313_0, hx313_1, hx314_0, hx315_0, hx315_1⟩ (fun hHeld => ?_); refine with_tabW cobwebref11_Same.tab13 cobwebref11_Same.bits13 (fun HT_ HW_ => ?_)
                                              generalize wr.drew = w58 at HO_5 HO_6 HO_290000 HO_290001 HO_291000 HO_291001 HL311_0 BK289 BK290 HR309_0 HR310_0 HR311_0 HB HL312_0 HL314_0 HR312_0 HR314_0 hx312_0 hx313_0 hx313_1 hx314_0 hx315_0 hx315_1 hHeld ⊢
                                              refine pure_ (i := 0) (N := some 93) (v := ?_) (a' := ?_) #[true, false, false, false, false, false, false, false, false, false, false, false, false, false, false] rfl rfl (any_of HT_.out (by kernel_rfl)) (fun _ _ _ h => h) (Or.inl ⟨by rfl, ?_⟩) ?_ ?_
                                              rotate_left
                                              · intro w'
                                                go_simp
                                                with_reducible rfl
                                              rotate_left
                                              · simp only [Act.put, List.setIfInBounds_toArray, List.set_cons_zero, List.set_cons_succ, i64_w, i32_w]
                                                rfl
                                              refine pure_ (i := 1) (N := some 94) (v := ?_) (a' := ?_) #[true, true, false, false, false, false, false, false, false, false, false, false, false, false, false] rfl rfl (any_of HT_.out (by kernel_rfl)) (fun _ _ _ h => h) (Or.inl ⟨by rfl, ?_⟩) ?_ ?_
                                              rotate_left
                                              · intro w'
                                                go_simp
                                                with_reducible rfl
                                              rotate_left
                                              · simp only [Act.put, List.setIfInBounds_toArray, List.set_cons_zero, List.set_cons_succ, i64_w, i32_w]
                                                rfl
                                              refine pure_ (i := 2) (N := some 95) (v := ?_) (a' := ?_) #[true, true, true, false, false, false, false, false, false, false, false, false, false, false, false] rfl rfl (any_of HT_.out (by kernel_rfl)) (fun _ _ _ h => h) (Or.inl ⟨by rfl, ?_⟩) ?_ ?_
                                              rotate_left
                                              · intro w'
                                                go_simp
                                                with_reducible rfl
                                              rotate_left
                                              · simp only [Act.put, List.setIfInBounds_toArray, List.set_cons_zero, List.set_cons_succ, i64_w, i32_w]
                                                rfl
                                              refine pure_ (i := 4) (N := some 97) (v := ?_) (a' := ?_) #[true, true, true, false, true, false, false, false, false, false, false, false, false, false, false] rfl rfl (any_of HT_.out (by kernel_rfl)) (fun _ _ _ h => h) (Or.inl ⟨by rfl, ?_⟩) ?_ ?_
                                              rotate_left
                                              · intro w'
                                                go_simp
                                                with_reducible rfl
                                              rotate_left
                                              · simp only [Act.put, List.setIfInBounds_toArray, List.set_cons_zero, List.set_cons_succ, i64_w, i32_w]
                                                rfl
                                              refine pure_ (i := 7) (N := some 100) (v := ?_) (a' := ?_) #[true, true, true, false, true, false, false, true, false, false, false, false, false, false, false] rfl rfl (any_of HT_.out (by kernel_rfl)) (fun _ _ _ h => h) (Or.inl ⟨by rfl, ?_⟩) ?_ ?_
                                              rotate_left
                                              · intro w'
                                                go_simp
                                                with_reducible rfl
                                              rotate_left
                                              · simp only [Act.put, List.setIfInBounds_toArray, List.set_cons_zero, List.set_cons_succ, i64_w, i32_w]
                                                rfl
                                              refine pure_ (i := 8) (N := some 101) (v := ?_) (a' := ?_) #[true, true, true, false, true, false, false, true, true, false, false, false, false, false, false] rfl rfl (any_of HT_.out (by kernel_rfl)) (fun _ _ _ h => h) (Or.inl ⟨by rfl, ?_⟩) ?_ ?_
                                              rotate_left
                                              · intro w'
                                                go_simp
                                                with_reducible rfl
                                              rotate_left
                                              · simp only [Act.put, List.setIfInBounds_toArray, List.set_cons_zero, List.set_cons_succ, i64_w, i32_w]
                                                rfl
                                              refine pure_ (i := 9) (N := some 102) (v := ?_) (a' := ?_) #[true, true, true, false, true, false, false, true, true, true, false, false, false, false, false] rfl rfl (any_of HT_.out (by kernel_rfl)) (fun _ _ _ h => h) (Or.inl ⟨by rfl, ?_⟩) ?_ ?_
                                              rotate_left
                                              · intro w'
                                                go_simp
                                                with_reducible rfl
                                              rotate_left
                                              · simp only [Act.put, List.setIfInBounds_toArray, List.set_cons_zero, List.set_cons_succ, i64_w, i32_w]
                                                rfl
                                              refine pure_ (i := 11) (N := some 104) (v := ?_) (a' := ?_) #[true, true, true, false, true, false, false, true, true, true, false, true, false, false, false] rfl rfl (any_of HT_.out (by kernel_rfl)) (fun _ _ _ h => h) (Or.inl ⟨by rfl, ?_⟩) ?_ ?_
                                              rotate_left
                                              · intro w'
                                                go_simp
                                                with_reducible rfl
                                              rotate_left
                                              · simp only [Act.put, List.setIfInBounds_toArray, List.set_cons_zero, List.set_cons_succ, i64_w, i32_w]
                                                rfl
                                              refine take_ (i := 3) (N := some 96) (v := ?_) (a' := ?_) #[true, true, true, true, true, false, false, true, true, true, false, true, false, false, false] rfl rfl (take_ofW HT_.out HW_.out (by kernel_rfl)) (fun _ _ _ h => h) (Or.inl ⟨by rfl, ?_⟩) hHeld ?_ ?_
                                              rotate_left
                                              · rintro w' ⟨s0, s1, s2, s3, s4, s5⟩
                                                go_simp
                                                with_reducible rfl
                                              rotate_left
                                              · simp only [Act.put, List.setIfInBounds_toArray, List.set_cons_zero, List.set_cons_succ, i64_w, i32_w]
                                                rfl
                                              refine pure_ (i := 5) (N := some 98) (v := ?_) (a' := ?_) #[true, true, true, true, true, true, false, true, true, true, false, true, false, false, false] rfl rfl (any_of HT_.out (by kernel_rfl)) (fun _ _ _ h => h) (Or.inl ⟨by rfl, ?_⟩) ?_ ?_
                                              rotate_left
                                              · intro w'
                                                go_simp
                                                with_reducible rfl
                                              rotate_left
                                              · simp only [Act.put, List.setIfInBounds_toArray, List.set_cons_zero, List.set_cons_succ, i64_w, i32_w]
                                                rfl
                                              refine take_ (i := 6) (N := some 99) (v := ?_) (a' := ?_) #[true, true, true, true, true, true, true, true, true, true, false, true, false, false, false] rfl rfl (take_ofW HT_.out HW_.out (by kernel_rfl)) (fun _ _ _ h => h) (Or.inl ⟨by rfl, ?_⟩) hHeld ?_ ?_
                                              rotate_left
                                              · rintro w' ⟨s0, s1, s2, s3, s4, s5⟩
                                                go_simp
                                                with_reducible rfl
                                              rotate_left
                                              · simp only [Act.put, List.setIfInBounds_toArray, List.set_cons_zero, List.set_cons_succ, i64_w, i32_w]
                                                rfl
                                              refine take_ (i := 10) (N := some 103) (v := ?_) (a' := ?_) #[true, true, true, true, true, true, true, true, true, true, true, true, false, false, false] rfl rfl (take_ofW HT_.out HW_.out (by kernel_rfl)) (fun _ _ _ h => h) (Or.inl ⟨by rfl, ?_⟩) hHeld ?_ ?_
                                              rotate_left
                                              · rintro w' ⟨s0, s1, s2, s3, s4, s5⟩
                                                go_simp
                                                with_reducible rfl
                                              rotate_left
                                              · simp only [Act.put, List.setIfInBounds_toArray, List.set_cons_zero, List.set_cons_succ, i64_w, i32_w]
                                                rfl
                                              refine pure_ (i := 12) (N := some 105) (v := ?_) (a' := ?_) #[true, true, true, true, true, true, true, true, true, true, true, true, true, false, false] rfl rfl (any_of HT_.out (by kernel_rfl)) (fun _ _ _ h => h) (Or.inl ⟨by rfl, ?_⟩) ?_ ?_
                                              rotate_left
                                              · intro w'
                                                go_simp
                                                with_reducible rfl
                                              rotate_left
                                              · simp only [Act.put, List.setIfInBounds_toArray, List.set_cons_zero, List.set_cons_succ, i64_w, i32_w]
                                                rfl
                                              refine take_ (i := 13) (N := some 106) (v := ?_) (a' := ?_) #[true, true, true, true, true, true, true, true, true, true, true, true, true, true, false] rfl rfl (take_ofW HT_.out HW_.out (by kernel_rfl)) (fun _ _ _ h => h) (Or.inl ⟨by rfl, ?_⟩) hHeld ?_ ?_
                                              rotate_left
                                              · rintro w' ⟨s0, s1, s2, s3, s4, s5⟩
                                                go_simp
                                                with_reducible rfl
                                              rotate_left
                                              · simp only [Act.put, List.setIfInBounds_toArray, List.set_cons_zero, List.set_cons_succ, i64_w, i32_w]
                                                rfl
                                              refine pure_ (i := 14) (N := some 107) (v := ?_) (a' := ?_) #[true, true, true, true, true, true, true, true, true, true, true, true, true, true, true] rfl rfl (any_of HT_.out (by kernel_rfl)) (fun _ _ _ h => h) (Or.inl ⟨by rfl, ?_⟩) ?_ ?_
                                              rotate_left
                                              · intro w'
                                                go_simp
                                                with_reducible rfl
                                              rotate_left
                                              · simp only [Act.put, List.setIfInBounds_toArray, List.set_cons_zero, List.set_cons_succ, i64_w, i32_w]
                                                rfl
                                              refine done_ (done_of HT_.out (by kernel_rfl)) ?_
                                              try go_wp2
                                              go_ret
                                              exact ⟨by first | rfl | (simp [errW_none, errW_some] <;> rfl) | (simp [*, errW_none, errW_some] <;> rfl), by repeat (first | (with_reducible first | exact HB.out | apply below_alloc | apply pw_below_drewN | apply below_drew1 | refine below_set ?_ GE289.out | refine below_set ?_ GE290.out) | exact HB.out)⟩
                                            · rw [if_neg c57] at H
                                              have c57b0 : (!(((rd_T23 (rd_L2 y297 x7_2) x8_3).f0) == ((rd_T23 (rd_L2 y306 x7_2) x8_3).f0)) || (!(((rd_T23 (rd_L2 y297 x7_2) x8_3).f1) == ((rd_T23 (rd_L2 y306 x7_2) x8_3).f1)))) = false := by simpa using c57
                                              clear c57
                                              have H' := Aside0.mk H
                                              clear H
                                              have p311 : 0 ≤ (x7_2 : Int) := of_decide_eq_true (by first | (with_reducible assumption) | assumption)
                                              have q311 : x7_2 < (y297.length : Int) := of_decide_eq_true (by first | (with_reducible assumption) | assumption)
                                              obtain ⟨ad311, A311_0, c311_0, e311, hx311_0, hl311_0, hi311_0⟩ := at_L2 (Kd.N_reads' HO_5.out).2.2 x7_2 p311 q311
                                              obtain rfl : ad309 = ad311 := (by injection e311)
                                              obtain ⟨ce311, hce311, hMe311, hcc311⟩ := Kd.N_get HO_5.out [] x7_2 p311 (by first | exact q311 | exact of_decide_eq_true (by first | (with_reducible assumption) | assumption) | (have e_ := (Kd.N_reads' HO_5.out).1; omega))
                                              obtain ⟨ua311_0, uc311_0, rfl, ul311_0, ge311_0⟩ := Kd.FK_slice_open hMe311
                                              have hv311_0 := hcc311 0 _ rfl
                                              rw [Nat.add_zero, show ((Kd.slice 23 k23)).sz = 1 from rfl, Nat.mul_one] at hv311_0
                                              replace hv311_0 := Option.some.inj (hv311_0.symm.trans hx311_0)
                                              injection hv311_0 with hva_ hvn_ hvc_
                                              rw [hva_] at ge311_0
                                              rw [hvc_] at ul311_0
                                              have HL311_0 := Aside0.mk (show Kd.V k23 23 _ w.heap.size _ _ (rd_L2 y297 x7_2) from Kd.V_mk ul311_0 ge311_0)
                                              clear hva_ hvn_ hvc_ ge311_0 ul311_0
                                              clear hcc311 hce311
                                              have HR311_0 := Aside0.mk hi311_0
                                              have HC311_0 := Aside0.mk hl311_0
                                              clear hi311_0 hl311_0
                                              replace p311 := eq_true p311
                                              replace q311 := eq_true q311
                                              try go_wp2
                                              have n0_ := Aside0.mk (Kd.N_drew HO_5.out)
                                              have n1_ := Aside0.mk (Kd.N_drew HO_6.out)
                                              have n2_ := Aside0.mk (Kd.V_drew HO_290000.out)
                                              have n3_ := Aside0.mk (Kd.V_drew HO_290001.out)
                                              have n4_ := Aside0.mk (Kd.V_drew HO_291000.out)
                                              have n5_ := Aside0.mk (Kd.V_drew HO_291001.out)
                                              have n6_ := Aside0.mk (Kd.V_drew HL311_0.out)
                                              have n7_ := Aside0.mk (blk_drew BK289.out)
                                              have n8_ := Aside0.mk (blk_drew BK290.out)
                                              have n9_ := Aside0.mk (Kd.C_drew HR309_0.out)
                                              have n10_ := Aside0.mk (Kd.C_drew HR310_0.out)
                                              have n11_ := Aside0.mk (Kd.C_drew HR311_0.out)
                                              have n12_ := Aside0.mk (below_drew1 HB.out)
                                              clear HO_5
                                              clear HO_6
                                              clear HO_290000
                                              clear HO_290001
                                              clear HO_291000
                                              clear HO_291001
                                              clear HL311_0
                                              clear BK289
                                              clear BK290
                                              clear HR309_0
                                              clear HR310_0
                                              clear HR311_0
                                              clear HB
                                              have HO_5 := n0_
                                              have HO_6 := n1_
                                              have HO_290000 := n2_
                                              have HO_290001 := n3_
                                              have HO_291000 := n4_
                                              have HO_291001 := n5_
                                              have HL311_0 := n6_
                                              have BK289 := n7_
                                              have BK290 := n8_
                                              have HR309_0 := n9_
                                              have HR310_0 := n10_
                                              have HR311_0 := n11_
                                              have HB := n12_
                                              clear n0_ n1_ n2_ n3_ n4_ n5_ n6_ n7_ n8_ n9_ n10_ n11_ n12_
                                              have p312 : 0 ≤ (x7_2 : Int) := of_decide_eq_true (by first | (with_reducible assumption) | assumption)
                                              have q312 : x7_2 < (y297.length : Int) := of_decide_eq_true (by first | (with_reducible assumption) | assumption)
                                              obtain ⟨ad312, A312_0, c312_0, e312, hx312_0, hl312_0, hi312_0⟩ := at_L2 (Kd.N_reads' HO_5.out).2.2 x7_2 p312 q312
                                              obtain rfl : ad309 = ad312 := (by injection e312)
                                              obtain ⟨ce312, hce312, hMe312, hcc312⟩ := Kd.N_get HO_5.out [] x7_2 p312 (by first | exact q312 | exact of_decide_eq_true (by first | (with_reducible assumption) | assumption) | (have e_ := (Kd.N_reads' HO_5.out).1; omega))
                                              obtain ⟨ua312_0, uc312_0, rfl, ul312_0, ge312_0⟩ := Kd.FK_slice_open hMe312
                                              have hv312_0 := hcc312 0 _ rfl
                                              rw [Nat.add_zero, show ((Kd.slice 23 k23)).sz = 1 from rfl, Nat.mul_one] at hv312_0
                                              replace hv312_0 := Option.some.inj (hv312_0.symm.trans hx312_0)
                                              injection hv312_0 with hva_ hvn_ hvc_
                                              rw [hva_] at ge312_0
                                              rw [hvc_] at ul312_0
                                              have HL312_0 := Aside0.mk (show Kd.V k23 23 _ w.heap.size _ _ (rd_L2 y297 x7_2) from Kd.V_mk ul312_0 ge312_0)
                                              clear hva_ hvn_ hvc_ ge312_0 ul312_0
                                              clear hcc312 hce312
                                              have HR312_0 := Aside0.mk hi312_0
                                              have HC312_0 := Aside0.mk hl312_0
                                              clear hi312_0 hl312_0
                                              replace p312 := eq_true p312
                                              replace q312 := eq_true q312
                                              have p313 : 0 ≤ (x8_3 : Int) := of_decide_eq_true (by first | (with_reducible assumption) | assumption)
                                              have q313 : x8_3 < ((rd_L2 y297 x7_2).length : Int) := of_decide_eq_true (by first | (with_reducible assumption) | assumption)
                                              obtain ⟨ad313, e313, hx313_0, hx313_1⟩ := at_T23 (by repeat (first | (with_reducible exact HR312_0.out) | (with_reducible refine Kd.C_alloc ?_ _) | (with_reducible refine Kd.C_drewN ?_ _) | (with_reducible refine Kd.C_drew ?_) | exact HR312_0.out)) x8_3 p313 q313
                                              cases e313
                                              replace p313 := eq_true p313
                                              replace q313 := eq_true q313
                                              have p314 : 0 ≤ (x7_2 : Int) := of_decide_eq_true (by first | (with_reducible assumption) | assumption)
                                              have q314 : x7_2 < (y306.length : Int) := of_decide_eq_true (by first | (with_reducible assumption) | assumption)
                                              obtain ⟨ad314, A314_0, c314_0, e314, hx314_0, hl314_0, hi314_0⟩ := at_L2 (Kd.N_reads' HO_6.out).2.2 x7_2 p314 q314
                                              obtain rfl : ad310 = ad314 := (by injection e314)
                                              obtain ⟨ce314, hce314, hMe314, hcc314⟩ := Kd.N_get HO_6.out [] x7_2 p314 (by first | exact q314 | exact of_decide_eq_true (by first | (with_reducible assumption) | assumption) | (have e_ := (Kd.N_reads' HO_6.out).1; omega))
                                              obtain ⟨ua314_0, uc314_0, rfl, ul314_0, ge314_0⟩ := Kd.FK_slice_open hMe314
                                              have hv314_0 := hcc314 0 _ rfl
                                              rw [Nat.add_zero, show ((Kd.slice 23 k23)).sz = 1 from rfl, Nat.mul_one] at hv314_0
                                              replace hv314_0 := Option.some.inj (hv314_0.symm.trans hx314_0)
                                              injection hv314_0 with hva_ hvn_ hvc_
                                              rw [hva_] at ge314_0
                                              rw [hvc_] at ul314_0
                                              have HL314_0 := Aside0.mk (show Kd.V k23 23 _ w.heap.size _ _ (rd_L2 y306 x7_2) from Kd.V_mk ul314_0 ge314_0)
                                              clear hva_ hvn_ hvc_ ge314_0 ul314_0
                                              clear hcc314 hce314
                                              have HR314_0 := Aside0.mk hi314_0
                                              have HC314_0 := Aside0.mk hl314_0
                                              clear hi314_0 hl314_0
                                              replace p314 := eq_true p314
                                              replace q314 := eq_true q314
                                              have p315 : 0 ≤ (x8_3 : Int) := of_decide_eq_true (by first | (with_reducible assumption) | assumption)
                                              have q315 : x8_3 < ((rd_L2 y306 x7_2).length : Int) := of_decide_eq_true (by first | (with_reducible assumption) | assumption)
                                              obtain ⟨ad315, e315, hx315_0, hx315_1⟩ := at_T23 (by repeat (first | (with_reducible exact HR314_0.out) | (with_reducible refine Kd.C_alloc ?_ _) | (with_reducible refine Kd.C_drewN ?_ _) | (with_reducible refine Kd.C_drew ?_) | exact HR314_0.out)) x8_3 p315 q315
                                              cases e315
                                              replace p315 := eq_true p315
                                              replace q315 := eq_true q315
                                              refine start_ (n := 15) (S := fun w' => w'.cell? (ad309.add (x7_2).toNat) = some (.slice (some ad313) (rd_L2 y297 x7_2).length c312_0) ∧ w'.cell? (ad313.add ((x8_3).toNat * 2)) = some (.int .i64 ((rd_T23 (rd_L2 y297 x7_2) x8_3).f0)) ∧ w'.cell? ⟨(ad313.add ((x8_3).toNat * 2)).block, (ad313.add ((x8_3).toNat * 2)).off + 1, none⟩ = some (.int .i64 ((rd_T23 (rd_L2 y297 x7_2) x8_3).f1)) ∧ w'.cell? (ad310.add (x7_2).toNat) = some (.slice (some ad315) (rd_L2 y306 x7_2).length c314_0) ∧ w'.cell? (ad315.add ((x8_3).toNat * 2)) = some (.int .i64 ((rd_T23 (rd_L2 y306 x7_2) x8_3).f0)) ∧ w'.cell? ⟨(ad315.add ((x8_3).toNat * 2)).block, (ad315.add ((x8_3).toNat * 2)).off + 1, none⟩ = some (.int .i64 ((rd_T23 (rd_L2 y306 x7_2) x8_3).f1))) (ds := []) #[false, false, false, false, false, false, false, false, false, false, false, false, false, false, false] (by kernel_rfl) rfl rfl ⟨hx312_0, hx313_0, hx313_1, hx314_0, hx315_0, hx315_1⟩ (fun hHeld => ?_); refine with_tabW cobwebref11_Same.tab13 cobwebref11_Same.bits13 (fun HT_ HW_ => ?_)
                                              generalize wr.drew = w59 at HO_5 HO_6 HO_290000 HO_290001 HO_291000 HO_291001 HL311_0 BK289 BK290 HR309_0 HR310_0 HR311_0 HB HL312_0 HL314_0 HR312_0 HR314_0 hx312_0 hx313_0 hx313_1 hx314_0 hx315_0 hx315_1 hHeld ⊢
                                              refine pure_ (i := 0) (N := some 93) (v := ?_) (a' := ?_) #[true, false, false, false, false, false, false, false, false, false, false, false, false, false, false] rfl rfl (any_of HT_.out (by kernel_rfl)) (fun _ _ _ h => h) (Or.inl ⟨by rfl, ?_⟩) ?_ ?_
                                              rotate_left
                                              · intro w'
                                                go_simp
                                                with_reducible rfl
                                              rotate_left
                                              · simp only [Act.put, List.setIfInBounds_toArray, List.set_cons_zero, List.set_cons_succ, i64_w, i32_w]
                                                rfl
                                              refine pure_ (i := 1) (N := some 94) (v := ?_) (a' := ?_) #[true, true, false, false, false, false, false, false, false, false, false, false, false, false, false] rfl rfl (any_of HT_.out (by kernel_rfl)) (fun _ _ _ h => h) (Or.inl ⟨by rfl, ?_⟩) ?_ ?_
                                              rotate_left
                                              · intro w'
                                                go_simp
                                                with_reducible rfl
                                              rotate_left
                                              · simp only [Act.put, List.setIfInBounds_toArray, List.set_cons_zero, List.set_cons_succ, i64_w, i32_w]
                                                rfl
                                              refine pure_ (i := 2) (N := some 95) (v := ?_) (a' := ?_) #[true, true, true, false, false, false, false, false, false, false, false, false, false, false, false] rfl rfl (any_of HT_.out (by kernel_rfl)) (fun _ _ _ h => h) (Or.inl ⟨by rfl, ?_⟩) ?_ ?_
                                              rotate_left
                                              · intro w'
                                                go_simp
                                                with_reducible rfl
                                              rotate_left
                                              · simp only [Act.put, List.setIfInBounds_toArray, List.set_cons_zero, List.set_cons_succ, i64_w, i32_w]
                                                rfl
                                              refine pure_ (i := 4) (N := some 97) (v := ?_) (a' := ?_) #[true, true, true, false, true, false, false, false, false, false, false, false, false, false, false] rfl rfl (any_of HT_.out (by kernel_rfl)) (fun _ _ _ h => h) (Or.inl ⟨by rfl, ?_⟩) ?_ ?_
                                              rotate_left
                                              · intro w'
                                                go_simp
                                                with_reducible rfl
                                              rotate_left
                                              · simp only [Act.put, List.setIfInBounds_toArray, List.set_cons_zero, List.set_cons_succ, i64_w, i32_w]
                                                rfl
                                              refine pure_ (i := 7) (N := some 100) (v := ?_) (a' := ?_) #[true, true, true, false, true, false, false, true, false, false, false, false, false, false, false] rfl rfl (any_of HT_.out (by kernel_rfl)) (fun _ _ _ h => h) (Or.inl ⟨by rfl, ?_⟩) ?_ ?_
                                              rotate_left
                                              · intro w'
                                                go_simp
                                                with_reducible rfl
                                              rotate_left
                                              · simp only [Act.put, List.setIfInBounds_toArray, List.set_cons_zero, List.set_cons_succ, i64_w, i32_w]
                                                rfl
                                              refine pure_ (i := 8) (N := some 101) (v := ?_) (a' := ?_) #[true, true, true, false, true, false, false, true, true, false, false, false, false, false, false] rfl rfl (any_of HT_.out (by kernel_rfl)) (fun _ _ _ h => h) (Or.inl ⟨by rfl, ?_⟩) ?_ ?_
                                              rotate_left
                                              · intro w'
                                                go_simp
                                                with_reducible rfl
                                              rotate_left
                                              · simp only [Act.put, List.setIfInBounds_toArray, List.set_cons_zero, List.set_cons_succ, i64_w, i32_w]
                                                rfl
                                              refine pure_ (i := 9) (N := some 102) (v := ?_) (a' := ?_) #[true, true, true, false, true, false, false, true, true, true, false, false, false, false, false] rfl rfl (any_of HT_.out (by kernel_rfl)) (fun _ _ _ h => h) (Or.inl ⟨by rfl, ?_⟩) ?_ ?_
                                              rotate_left
                                              · intro w'
                                                go_simp
                                                with_reducible rfl
                                              rotate_left
                                              · simp only [Act.put, List.setIfInBounds_toArray, List.set_cons_zero, List.set_cons_succ, i64_w, i32_w]
                                                rfl
                                              refine pure_ (i := 11) (N := some 104) (v := ?_) (a' := ?_) #[true, true, true, false, true, false, false, true, true, true, false, true, false, false, false] rfl rfl (any_of HT_.out (by kernel_rfl)) (fun _ _ _ h => h) (Or.inl ⟨by rfl, ?_⟩) ?_ ?_
                                              rotate_left
                                              · intro w'
                                                go_simp
                                                with_reducible rfl
                                              rotate_left
                                              · simp only [Act.put, List.setIfInBounds_toArray, List.set_cons_zero, List.set_cons_succ, i64_w, i32_w]
                                                rfl
                                              refine take_ (i := 3) (N := some 96) (v := ?_) (a' := ?_) #[true, true, true, true, true, false, false, true, true, true, false, true, false, false, false] rfl rfl (take_ofW HT_.out HW_.out (by kernel_rfl)) (fun _ _ _ h => h) (Or.inl ⟨by rfl, ?_⟩) hHeld ?_ ?_
                                              rotate_left
                                              · rintro w' ⟨s0, s1, s2, s3, s4, s5⟩
                                                go_simp
                                                with_reducible rfl
                                              rotate_left
                                              · simp only [Act.put, List.setIfInBounds_toArray, List.set_cons_zero, List.set_cons_succ, i64_w, i32_w]
                                                rfl
                                              refine pure_ (i := 5) (N := some 98) (v := ?_) (a' := ?_) #[true, true, true, true, true, true, false, true, true, true, false, true, false, false, false] rfl rfl (any_of HT_.out (by kernel_rfl)) (fun _ _ _ h => h) (Or.inl ⟨by rfl, ?_⟩) ?_ ?_
                                              rotate_left
                                              · intro w'
                                                go_simp
                                                with_reducible rfl
                                              rotate_left
                                              · simp only [Act.put, List.setIfInBounds_toArray, List.set_cons_zero, List.set_cons_succ, i64_w, i32_w]
                                                rfl
                                              refine take_ (i := 6) (N := some 99) (v := ?_) (a' := ?_) #[true, true, true, true, true, true, true, true, true, true, false, true, false, false, false] rfl rfl (take_ofW HT_.out HW_.out (by kernel_rfl)) (fun _ _ _ h => h) (Or.inl ⟨by rfl, ?_⟩) hHeld ?_ ?_
                                              rotate_left
                                              · rintro w' ⟨s0, s1, s2, s3, s4, s5⟩
                                                go_simp
                                                with_reducible rfl
                                              rotate_left
                                              · simp only [Act.put, List.setIfInBounds_toArray, List.set_cons_zero, List.set_cons_succ, i64_w, i32_w]
                                                rfl
                                              refine take_ (i := 10) (N := some 103) (v := ?_) (a' := ?_) #[true, true, true, true, true, true, true, true, true, true, true, true, false, false, false] rfl rfl (take_ofW HT_.out HW_.out (by kernel_rfl)) (fun _ _ _ h => h) (Or.inl ⟨by rfl, ?_⟩) hHeld ?_ ?_
                                              rotate_left
                                              · rintro w' ⟨s0, s1, s2, s3, s4, s5⟩
                                                go_simp
                                                with_reducible rfl
                                              rotate_left
                                              · simp only [Act.put, List.setIfInBounds_toArray, List.set_cons_zero, List.set_cons_succ, i64_w, i32_w]
                                                rfl
                                              refine pure_ (i := 12) (N := some 105) (v := ?_) (a' := ?_) #[true, true, true, true, true, true, true, true, true, true, true, true, true, false, false] rfl rfl (any_of HT_.out (by kernel_rfl)) (fun _ _ _ h => h) (Or.inl ⟨by rfl, ?_⟩) ?_ ?_
                                              rotate_left
                                              · intro w'
                                                go_simp
                                                with_reducible rfl
                                              rotate_left
                                              · simp only [Act.put, List.setIfInBounds_toArray, List.set_cons_zero, List.set_cons_succ, i64_w, i32_w]
                                                rfl
                                              refine take_ (i := 13) (N := some 106) (v := ?_) (a' := ?_) #[true, true, true, true, true, true, true, true, true, true, true, true, true, true, false] rfl rfl (take_ofW HT_.out HW_.out (by kernel_rfl)) (fun _ _ _ h => h) (Or.inl ⟨by rfl, ?_⟩) hHeld ?_ ?_
                                              rotate_left
                                              · rintro w' ⟨s0, s1, s2, s3, s4, s5⟩
                                                go_simp
                                                with_reducible rfl
                                              rotate_left
                                              · simp only [Act.put, List.setIfInBounds_toArray, List.set_cons_zero, List.set_cons_succ, i64_w, i32_w]
                                                rfl
                                              refine pure_ (i := 14) (N := some 107) (v := ?_) (a' := ?_) #[true, true, true, true, true, true, true, true, true, true, true, true, true, true, true] rfl rfl (any_of HT_.out (by kernel_rfl)) (fun _ _ _ h => h) (Or.inl ⟨by rfl, ?_⟩) ?_ ?_
                                              rotate_left
                                              · intro w'
                                                go_simp
                                                with_reducible rfl
                                              rotate_left
                                              · simp only [Act.put, List.setIfInBounds_toArray, List.set_cons_zero, List.set_cons_succ, i64_w, i32_w]
                                                rfl
                                              refine done_ (done_of HT_.out (by kernel_rfl)) ?_
                                              try go_wp2
                                              go_roundg k3
                                              case measure => have := HJ2.out; have := HK2.out; have := HK3.out; omega
                                              case rel => exact ⟨(wrap64 (x8_3 + 1)), (by first | rfl | (simp; done) | (simp [*]; done)), H', ⟨by have := HJ2.out; have := HK2.out; have := HK3.out; omega⟩, ⟨by (with_reducible repeat (first | apply Kd.N_alloc | apply Kd.N_drewN | apply Kd.N_drew)); exact HO_5.out⟩, ⟨by (with_reducible repeat (first | apply Kd.N_alloc | apply Kd.N_drewN | apply Kd.N_drew)); exact HO_6.out⟩, ⟨by (with_reducible repeat (first | apply Kd.V_alloc | apply Kd.V_drewN | apply Kd.V_drew)); exact HO_290000.out⟩, ⟨by (with_reducible repeat (first | apply Kd.V_alloc | apply Kd.V_drewN | apply Kd.V_drew)); exact HO_290001.out⟩, ⟨by (with_reducible repeat (first | apply Kd.V_alloc | apply Kd.V_drewN | apply Kd.V_drew)); exact HO_291000.out⟩, ⟨by (with_reducible repeat (first | apply Kd.V_alloc | apply Kd.V_drewN | apply Kd.V_drew)); exact HO_291001.out⟩, ⟨by (with_reducible repeat (first | refine blk_drewN ?_ _ | refine blk_drew ?_ | refine blk_alloc ?_ _)); exact BK289.out⟩, ⟨by (with_reducible repeat (first | refine blk_drewN ?_ _ | refine blk_drew ?_ | refine blk_alloc ?_ _)); exact BK290.out⟩, ⟨by repeat (first | (with_reducible exact HR309_0.out) | (with_reducible refine Kd.C_alloc ?_ _) | (with_reducible refine Kd.C_drewN ?_ _) | (with_reducible refine Kd.C_drew ?_) | exact HR309_0.out)⟩, ⟨by repeat (first | (with_reducible exact HR310_0.out) | (with_reducible refine Kd.C_alloc ?_ _) | (with_reducible refine Kd.C_drewN ?_ _) | (with_reducible refine Kd.C_drew ?_) | exact HR310_0.out)⟩, ⟨by repeat (first | (with_reducible first | exact HB.out | apply below_alloc | apply pw_below_drewN | apply below_drew1 | refine below_set ?_ GE289.out | refine below_set ?_ GE290.out) | exact HB.out)⟩⟩
                                          · rw [if_neg c56] at H
                                            exact absurd H (by simp)
                                        · rw [if_neg c55] at H
                                          exact absurd H (by simp)
                                      · rw [if_neg c54] at H
                                        exact absurd H (by simp)
                                    · rw [if_neg c53] at H
                                      have c53b0 : decide (x8_3 < ((rd_L2 y297 x7_2).length : Int)) = false := decide_eq_false c53
                                      clear c53
                                      have H' := Aside0.mk H
                                      clear H
                                      have p311 : 0 ≤ (x7_2 : Int) := of_decide_eq_true (by first | (with_reducible assumption) | assumption)
                                      have q311 : x7_2 < (y297.length : Int) := of_decide_eq_true (by first | (with_reducible assumption) | assumption)
                                      obtain ⟨ad311, A311_0, c311_0, e311, hx311_0, hl311_0, hi311_0⟩ := at_L2 (Kd.N_reads' HO_5.out).2.2 x7_2 p311 q311
                                      obtain rfl : ad309 = ad311 := (by injection e311)
                                      obtain ⟨ce311, hce311, hMe311, hcc311⟩ := Kd.N_get HO_5.out [] x7_2 p311 (by first | exact q311 | exact of_decide_eq_true (by first | (with_reducible assumption) | assumption) | (have e_ := (Kd.N_reads' HO_5.out).1; omega))
                                      obtain ⟨ua311_0, uc311_0, rfl, ul311_0, ge311_0⟩ := Kd.FK_slice_open hMe311
                                      have hv311_0 := hcc311 0 _ rfl
                                      rw [Nat.add_zero, show ((Kd.slice 23 k23)).sz = 1 from rfl, Nat.mul_one] at hv311_0
                                      replace hv311_0 := Option.some.inj (hv311_0.symm.trans hx311_0)
                                      injection hv311_0 with hva_ hvn_ hvc_
                                      rw [hva_] at ge311_0
                                      rw [hvc_] at ul311_0
                                      have HL311_0 := Aside0.mk (show Kd.V k23 23 _ w.heap.size _ _ (rd_L2 y297 x7_2) from Kd.V_mk ul311_0 ge311_0)
                                      clear hva_ hvn_ hvc_ ge311_0 ul311_0
                                      clear hcc311 hce311
                                      have HR311_0 := Aside0.mk hi311_0
                                      have HC311_0 := Aside0.mk hl311_0
                                      clear hi311_0 hl311_0
                                      replace p311 := eq_true p311
                                      replace q311 := eq_true q311
                                      go_wp2
                                      go_roundg k3
                                      case measure => have := HJ2.out; have := HK2.out; have := HK3.out; omega
                                      case rel => exact ⟨(wrap64 (x7_2 + 1)), (by first | rfl | (simp; done) | (simp [*]; done)), H', ⟨by have := HJ2.out; have := HK2.out; have := HK3.out; omega⟩, ⟨by (with_reducible repeat (first | apply Kd.N_alloc | apply Kd.N_drewN | apply Kd.N_drew)); exact HO_5.out⟩, ⟨by (with_reducible repeat (first | apply Kd.N_alloc | apply Kd.N_drewN | apply Kd.N_drew)); exact HO_6.out⟩, ⟨by (with_reducible repeat (first | apply Kd.V_alloc | apply Kd.V_drewN | apply Kd.V_drew)); exact HO_290000.out⟩, ⟨by (with_reducible repeat (first | apply Kd.V_alloc | apply Kd.V_drewN | apply Kd.V_drew)); exact HO_290001.out⟩, ⟨by (with_reducible repeat (first | apply Kd.V_alloc | apply Kd.V_drewN | apply Kd.V_drew)); exact HO_291000.out⟩, ⟨by (with_reducible repeat (first | apply Kd.V_alloc | apply Kd.V_drewN | apply Kd.V_drew)); exact HO_291001.out⟩, ⟨by (with_reducible repeat (first | refine blk_drewN ?_ _ | refine blk_drew ?_ | refine blk_alloc ?_ _)); exact BK289.out⟩, ⟨by (with_reducible repeat (first | refine blk_drewN ?_ _ | refine blk_drew ?_ | refine blk_alloc ?_ _)); exact BK290.out⟩, ⟨by repeat (first | (with_reducible first | exact HB.out | apply below_alloc | apply pw_below_drewN | apply below_drew1 | refine below_set ?_ GE289.out | refine below_set ?_ GE290.out) | exact HB.out)⟩⟩
                                  · rw [if_neg c52] at H
                                    exact absurd H (by simp)
                                · rw [if_neg c51] at H
                                  exact absurd H (by simp)
                          · rw [if_neg c47] at H
                            have c47b0 : (((rd_L2 y297 x7_2).length : Int) == ((rd_L2 y306 x7_2).length : Int)) = false := beq_eq_false_iff_ne.mpr c47
                            have c47b1 : (((rd_L2 y297 x7_2).length : Int) != ((rd_L2 y306 x7_2).length : Int)) = true := bne_iff_ne.mpr c47
                            have c47b2 : ((rd_L2 y297 x7_2).length == (rd_L2 y306 x7_2).length) = false := by first | simpa using c47 | (simp at c47 ⊢; omega)
                            obtain rfl := Option.some.inj H
                            obtain ⟨Ao60, co60, eo60⟩ := Kd.N_slice HO_5.out
                            subst eo60
                            try go_wp2
                            have n0_ := Aside0.mk (Kd.N_drew HO_5.out)
                            have n1_ := Aside0.mk (Kd.N_drew HO_6.out)
                            have n2_ := Aside0.mk (Kd.V_drew HO_290000.out)
                            have n3_ := Aside0.mk (Kd.V_drew HO_290001.out)
                            have n4_ := Aside0.mk (Kd.V_drew HO_291000.out)
                            have n5_ := Aside0.mk (Kd.V_drew HO_291001.out)
                            have n6_ := Aside0.mk (blk_drew BK289.out)
                            have n7_ := Aside0.mk (blk_drew BK290.out)
                            have n8_ := Aside0.mk (below_drew1 HB.out)
                            clear HO_5
                            clear HO_6
                            clear HO_290000
                            clear HO_290001
                            clear HO_291000
                            clear HO_291001
                            clear BK289
                            clear BK290
                            clear HB
                            have HO_5 := n0_
                            have HO_6 := n1_
                            have HO_290000 := n2_
                            have HO_290001 := n3_
                            have HO_291000 := n4_
                            have HO_291001 := n5_
                            have BK289 := n6_
                            have BK290 := n7_
                            have HB := n8_
                            clear n0_ n1_ n2_ n3_ n4_ n5_ n6_ n7_ n8_
                            have p309 : 0 ≤ (x7_2 : Int) := of_decide_eq_true (by first | (with_reducible assumption) | assumption)
                            have q309 : x7_2 < (y297.length : Int) := of_decide_eq_true (by first | (with_reducible assumption) | assumption)
                            obtain ⟨ad309, A309_0, c309_0, e309, hx309_0, hl309_0, hi309_0⟩ := at_L2 (Kd.N_reads' HO_5.out).2.2 x7_2 p309 q309
                            cases e309
                            obtain ⟨ce309, hce309, hMe309, hcc309⟩ := Kd.N_get HO_5.out [] x7_2 p309 (by first | exact q309 | exact of_decide_eq_true (by first | (with_reducible assumption) | assumption) | (have e_ := (Kd.N_reads' HO_5.out).1; omega))
                            obtain ⟨ua309_0, uc309_0, rfl, ul309_0, ge309_0⟩ := Kd.FK_slice_open hMe309
                            have hv309_0 := hcc309 0 _ rfl
                            rw [Nat.add_zero, show ((Kd.slice 23 k23)).sz = 1 from rfl, Nat.mul_one] at hv309_0
                            replace hv309_0 := Option.some.inj (hv309_0.symm.trans hx309_0)
                            injection hv309_0 with hva_ hvn_ hvc_
                            rw [hva_] at ge309_0
                            rw [hvc_] at ul309_0
                            have HL309_0 := Aside0.mk (show Kd.V k23 23 _ w.heap.size _ _ (rd_L2 y297 x7_2) from Kd.V_mk ul309_0 ge309_0)
                            clear hva_ hvn_ hvc_ ge309_0 ul309_0
                            clear hcc309 hce309
                            have HR309_0 := Aside0.mk hi309_0
                            have HC309_0 := Aside0.mk hl309_0
                            clear hi309_0 hl309_0
                            replace p309 := eq_true p309
                            replace q309 := eq_true q309
                            obtain ⟨Ao62, co62, eo62⟩ := Kd.N_slice HO_6.out
                            (first | subst eo62 | (injection eo62 with f1_ f2_ f3_; have f4_ := f1_.symm; have f5_ := f3_.symm; clear f1_ f2_ f3_; subst f4_; subst f5_))
                            have p310 : 0 ≤ (x7_2 : Int) := of_decide_eq_true (by first | (with_reducible assumption) | assumption)
                            have q310 : x7_2 < (y306.length : Int) := of_decide_eq_true (by first | (with_reducible assumption) | assumption)
                            obtain ⟨ad310, A310_0, c310_0, e310, hx310_0, hl310_0, hi310_0⟩ := at_L2 (Kd.N_reads' HO_6.out).2.2 x7_2 p310 q310
                            cases e310
                            obtain ⟨ce310, hce310, hMe310, hcc310⟩ := Kd.N_get HO_6.out [] x7_2 p310 (by first | exact q310 | exact of_decide_eq_true (by first | (with_reducible assumption) | assumption) | (have e_ := (Kd.N_reads' HO_6.out).1; omega))
                            obtain ⟨ua310_0, uc310_0, rfl, ul310_0, ge310_0⟩ := Kd.FK_slice_open hMe310
                            have hv310_0 := hcc310 0 _ rfl
                            rw [Nat.add_zero, show ((Kd.slice 23 k23)).sz = 1 from rfl, Nat.mul_one] at hv310_0
                            replace hv310_0 := Option.some.inj (hv310_0.symm.trans hx310_0)
                            injection hv310_0 with hva_ hvn_ hvc_
                            rw [hva_] at ge310_0
                            rw [hvc_] at ul310_0
                            have HL310_0 := Aside0.mk (show Kd.V k23 23 _ w.heap.size _ _ (rd_L2 y306 x7_2) from Kd.V_mk ul310_0 ge310_0)
                            clear hva_ hvn_ hvc_ ge310_0 ul310_0
                            clear hcc310 hce310
                            have HR310_0 := Aside0.mk hi310_0
                            have HC310_0 := Aside0.mk hl310_0
                            clear hi310_0 hl310_0
                            replace p310 := eq_true p310
                            replace q310 := eq_true q310
                            refine start_ (n := 11) (S := fun w' => w'.cell? (ad309.add (x7_2).toNat) = some (.slice A309_0 (rd_L2 y297 x7_2).length c309_0) ∧ w'.cell? (ad310.add (x7_2).toNat) = some (.slice A310_0 (rd_L2 y306 x7_2).length c310_0)) (ds := []) #[false, false, false, false, false, false, false, false, false, false, false] (by kernel_rfl) rfl rfl ⟨hx309_0, hx310_0⟩ (fun hHeld => ?_); refine with_tabW cobwebref11_Same.tab8 cobwebref11_Same.bits8 (fun HT_ HW_ => ?_)
                            generalize wr.drew = w61 at HO_5 HO_6 HO_290000 HO_290001 HO_291000 HO_291001 BK289 BK290 HB HL309_0 HL310_0 HR309_0 HR310_0 hx309_0 hx310_0 hHeld ⊢
                            refine pure_ (i := 0) (N := some 73) (v := ?_) (a' := ?_) #[true, false, false, false, false, false, false, false, false, false, false] rfl rfl (any_of HT_.out (by kernel_rfl)) (fun _ _ _ h => h) (Or.inl ⟨by rfl, ?_⟩) ?_ ?_
                            rotate_left
                            · intro w'
                              go_simp
                              with_reducible rfl
                            rotate_left
                            · simp only [Act.put, List.setIfInBounds_toArray, List.set_cons_zero, List.set_cons_succ, i64_w, i32_w]
                              rfl
                            refine pure_ (i := 1) (N := some 74) (v := ?_) (a' := ?_) #[true, true, false, false, false, false, false, false, false, false, false] rfl rfl (any_of HT_.out (by kernel_rfl)) (fun _ _ _ h => h) (Or.inl ⟨by rfl, ?_⟩) ?_ ?_
                            rotate_left
                            · intro w'
                              go_simp
                              with_reducible rfl
                            rotate_left
                            · simp only [Act.put, List.setIfInBounds_toArray, List.set_cons_zero, List.set_cons_succ, i64_w, i32_w]
                              rfl
                            refine pure_ (i := 2) (N := some 75) (v := ?_) (a' := ?_) #[true, true, true, false, false, false, false, false, false, false, false] rfl rfl (any_of HT_.out (by kernel_rfl)) (fun _ _ _ h => h) (Or.inl ⟨by rfl, ?_⟩) ?_ ?_
                            rotate_left
                            · intro w'
                              go_simp
                              with_reducible rfl
                            rotate_left
                            · simp only [Act.put, List.setIfInBounds_toArray, List.set_cons_zero, List.set_cons_succ, i64_w, i32_w]
                              rfl
                            refine pure_ (i := 5) (N := some 78) (v := ?_) (a' := ?_) #[true, true, true, false, false, true, false, false, false, false, false] rfl rfl (any_of HT_.out (by kernel_rfl)) (fun _ _ _ h => h) (Or.inl ⟨by rfl, ?_⟩) ?_ ?_
                            rotate_left
                            · intro w'
                              go_simp
                              with_reducible rfl
                            rotate_left
                            · simp only [Act.put, List.setIfInBounds_toArray, List.set_cons_zero, List.set_cons_succ, i64_w, i32_w]
                              rfl
                            refine pure_ (i := 6) (N := some 79) (v := ?_) (a' := ?_) #[true, true, true, false, false, true, true, false, false, false, false] rfl rfl (any_of HT_.out (by kernel_rfl)) (fun _ _ _ h => h) (Or.inl ⟨by rfl, ?_⟩) ?_ ?_
                            rotate_left
                            · intro w'
                              go_simp
                              with_reducible rfl
                            rotate_left
                            · simp only [Act.put, List.setIfInBounds_toArray, List.set_cons_zero, List.set_cons_succ, i64_w, i32_w]
                              rfl
                            refine pure_ (i := 7) (N := some 80) (v := ?_) (a' := ?_) #[true, true, true, false, false, true, true, true, false, false, false] rfl rfl (any_of HT_.out (by kernel_rfl)) (fun _ _ _ h => h) (Or.inl ⟨by rfl, ?_⟩) ?_ ?_
                            rotate_left
                            · intro w'
                              go_simp
                              with_reducible rfl
                            rotate_left
                            · simp only [Act.put, List.setIfInBounds_toArray, List.set_cons_zero, List.set_cons_succ, i64_w, i32_w]
                              rfl
                            refine take_ (i := 3) (N := some 76) (v := ?_) (a' := ?_) #[true, true, true, true, false, true, true, true, false, false, false] rfl rfl (take_ofW HT_.out HW_.out (by kernel_rfl)) (fun _ _ _ h => h) (Or.inl ⟨by rfl, ?_⟩) hHeld ?_ ?_
                            rotate_left
                            · rintro w' ⟨s0, s1⟩
                              go_simp
                              with_reducible rfl
                            rotate_left
                            · simp only [Act.put, List.setIfInBounds_toArray, List.set_cons_zero, List.set_cons_succ, i64_w, i32_w]
                              rfl
                            refine pure_ (i := 4) (N := some 77) (v := ?_) (a' := ?_) #[true, true, true, true, true, true, true, true, false, false, false] rfl rfl (any_of HT_.out (by kernel_rfl)) (fun _ _ _ h => h) (Or.inl ⟨by rfl, ?_⟩) ?_ ?_
                            rotate_left
                            · intro w'
                              go_simp
                              with_reducible rfl
                            rotate_left
                            · simp only [Act.put, List.setIfInBounds_toArray, List.set_cons_zero, List.set_cons_succ, i64_w, i32_w]
                              rfl
                            refine take_ (i := 8) (N := some 81) (v := ?_) (a' := ?_) #[true, true, true, true, true, true, true, true, true, false, false] rfl rfl (take_ofW HT_.out HW_.out (by kernel_rfl)) (fun _ _ _ h => h) (Or.inl ⟨by rfl, ?_⟩) hHeld ?_ ?_
                            rotate_left
                            · rintro w' ⟨s0, s1⟩
                              go_simp
                              with_reducible rfl
                            rotate_left
                            · simp only [Act.put, List.setIfInBounds_toArray, List.set_cons_zero, List.set_cons_succ, i64_w, i32_w]
                              rfl
                            refine pure_ (i := 9) (N := some 82) (v := ?_) (a' := ?_) #[true, true, true, true, true, true, true, true, true, true, false] rfl rfl (any_of HT_.out (by kernel_rfl)) (fun _ _ _ h => h) (Or.inl ⟨by rfl, ?_⟩) ?_ ?_
                            rotate_left
                            · intro w'
                              go_simp
                              with_reducible rfl
                            rotate_left
                            · simp only [Act.put, List.setIfInBounds_toArray, List.set_cons_zero, List.set_cons_succ, i64_w, i32_w]
                              rfl
                            refine pure_ (i := 10) (N := some 83) (v := ?_) (a' := ?_) #[true, true, true, true, true, true, true, true, true, true, true] rfl rfl (any_of HT_.out (by kernel_rfl)) (fun _ _ _ h => h) (Or.inl ⟨by rfl, ?_⟩) ?_ ?_
                            rotate_left
                            · intro w'
                              go_simp
                              with_reducible rfl
                            rotate_left
                            · simp only [Act.put, List.setIfInBounds_toArray, List.set_cons_zero, List.set_cons_succ, i64_w, i32_w]
                              rfl
                            refine done_ (done_of HT_.out (by kernel_rfl)) ?_
                            try go_wp2
                            go_ret
                            exact ⟨by first | rfl | (simp [errW_none, errW_some] <;> rfl) | (simp [*, errW_none, errW_some] <;> rfl), by repeat (first | (with_reducible first | exact HB.out | apply below_alloc | apply pw_below_drewN | apply below_drew1 | refine below_set ?_ GE289.out | refine below_set ?_ GE290.out) | exact HB.out)⟩
                        · rw [if_neg c46] at H
                          exact absurd H (by simp)
                      · rw [if_neg c45] at H
                        exact absurd H (by simp)
                    · rw [if_neg c44] at H
                      have c44b0 : decide (x7_2 < (y297.length : Int)) = false := decide_eq_false c44
                      clear c44
                      obtain rfl := Option.some.inj H
                      obtain ⟨Ao63, co63, eo63⟩ := Kd.N_slice HO_5.out
                      subst eo63
                      go_wp2
                      go_ret
                      exact ⟨by first | rfl | (simp [errW_none, errW_some] <;> rfl) | (simp [*, errW_none, errW_some] <;> rfl), by repeat (first | (with_reducible first | exact HB.out | apply below_alloc | apply pw_below_drewN | apply below_drew1 | refine below_set ?_ GE289.out | refine below_set ?_ GE290.out) | exact HB.out)⟩
              · rw [if_neg c33] at H
                exact absurd H (by simp)
            · rw [if_neg c32] at H
              exact absurd H (by simp)
          · rw [if_neg c31] at H
            exact absurd H (by simp)
        · rw [if_neg c30] at H
          exact absurd H (by simp)

end Go.Proofs.Ytpfgjagpaddcpaa.X
