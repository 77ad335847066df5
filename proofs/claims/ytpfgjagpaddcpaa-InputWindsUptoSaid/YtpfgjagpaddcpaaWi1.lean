import Derived.Test.YtpfgjagpaddcpaaBa2
import Derived.Test.YtpfgjagpaddcpaaProg
import Derived.Below
import Derived.Deep.Draws
import Derived.Deep.AppendLies
import Derived.Maps.AppendAt
import Derived.OwnWalk
import Derived.Laws.BytesArg
import Derived.Laws.MakeOwn
import Derived.Laws.OwnMore
import Derived.Deep.OwnRows
import Derived.Tactics
import Derived.Lib.ConvBytes
import Derived.Laws.Slices
import Derived.WalkKit
import Derived.KernelRfl
import Derived.RowKit3
import Derived.Deep.LoopGhost
import Derived.Deep.QuietTactic
import Derived.BigQuiet
import Derived.WideLaws
import Derived.Deep.DeepCutAuto
import Derived.Deep.CutBlock
import Derived.Deep.RegionHeld3
import Derived.Laws.Rows
import Derived.Lib.AppendStr
import Derived.ArgAppend
import Derived.Laws.IdiomCopy
import Derived.OrdersHeld
import Derived.Laws.BitsLemmas
import Derived.RowKit
import Derived.Test.YtpfgjagpaddcpaaWWords
import Derived.Test.YtpfgjagpaddcpaaWLast
import Derived.Test.YtpfgjagpaddcpaaWTab
import Derived.Test.YtpfgjagpaddcpaaWFour
import Derived.Test.YtpfgjagpaddcpaaWQPut
import Derived.Test.YtpfgjagpaddcpaaWApart
import Derived.Test.YtpfgjagpaddcpaaWArr
import Derived.Test.YtpfgjagpaddcpaaWZeros
import Derived.Test.YtpfgjagpaddcpaaWFoot
import Derived.Test.YtpfgjagpaddcpaaWKept
import Derived.Test.YtpfgjagpaddcpaaWShare
import Derived.Test.YtpfgjagpaddcpaaWN
import Derived.Test.YtpfgjagpaddcpaaWFootNe
import Derived.Test.YtpfgjagpaddcpaaWAt
import Derived.Test.YtpfgjagpaddcpaaWEqStruct
import Derived.Test.YtpfgjagpaddcpaaWRepsOne
import Derived.Test.YtpfgjagpaddcpaaWInv
import Derived.Test.YtpfgjagpaddcpaaWInvWords
import Derived.Test.YtpfgjagpaddcpaaWGuard
import Derived.Test.YtpfgjagpaddcpaaWNEv
import Derived.Test.YtpfgjagpaddcpaaWMore
/-! Texts that this law leans on, put together by a program of this session: X0 X4 X5 X10 X12 A3. -/
-- Printed by the kit's print.py for this seat (all laws in one set), called by this session.
namespace Go.Proofs.Ytpfgjagpaddcpaa.X
open Go.RowKit Go.Proofs.YtpfgjagpaddcpaaW.PrintWords Go.Proofs.YtpfgjagpaddcpaaW.PrintLast Go.Proofs.YtpfgjagpaddcpaaW.PrintMore
attribute [local go_sem] max2_int min2_int max_two min_two max_three min_three max_four min_four
set_option linter.unusedVariables false
set_option linter.unusedSimpArgs false



theorem info68 : (Try.prog.info? 68).map (fun i => (i.zero, i.size, i.bytes)) = some (some (.agg #[(.int .i64 0), (.int .i64 0), (.int .i64 0), (.int .i64 0), (.int .i64 0)]), 5, 40) := by kernel_rfl
-- the values' own types
/-! #### struct type 23 -/
/-! #### struct type 68 -/
structure S68 where
  f0 : S23
  f1 : S23
  f2 : Int
def z68 : S68 := ⟨z23, z23, (0 : Int)⟩
def k68 : Kd S68 := Kd.iso (Kd.pair k23 (Kd.pair k23 (Kd.int .i64))) (fun x : S68 => (x.f0, x.f1, x.f2))
theorem k68_open {w : World} {x : S68} {cs : List Value} (h : k68.K w x cs) : cs = [.int .i64 x.f0.f0, .int .i64 x.f0.f1, .int .i64 x.f1.f0, .int .i64 x.f1.f1, .int .i64 x.f2] := by
  obtain ⟨_, _, rfl, s0, ⟨_, _, rfl, s2, rfl⟩⟩ := h
  obtain rfl := k23_open s0
  obtain rfl := k23_open s2
  exact rfl
theorem k68_mkM (w : World) (base : Nat) (ok : Nat → Prop) (x : S68)  : k68.M w base ok x [.int .i64 x.f0.f0, .int .i64 x.f0.f1, .int .i64 x.f1.f0, .int .i64 x.f1.f1, .int .i64 x.f2] := ⟨[.int .i64 x.f0.f0, .int .i64 x.f0.f1], [.int .i64 x.f1.f0, .int .i64 x.f1.f1, .int .i64 x.f2], rfl, (k23_mkM w base ok x.f0 ), ⟨[.int .i64 x.f1.f0, .int .i64 x.f1.f1], [.int .i64 x.f2], rfl, (k23_mkM w base ok x.f1 ), rfl⟩⟩
def rd_T68 (xs : List S68) (i : Int) : S68 := xs.getD i.toNat z68
theorem at_T68 {w : World} {A : Option Addr} {n : Nat} {xs : List S68} (h : Kd.C k68 w A n xs) (i : Int) (h0 : 0 ≤ i) (h1 : i < n) : ∃ ad , A = some ad ∧ w.cell? (ad.add (i.toNat * 5)) = some (.int .i64 (rd_T68 xs i).f0.f0) ∧ w.cell? ⟨(ad.add (i.toNat * 5)).block, (ad.add (i.toNat * 5)).off + 1, none⟩ = some (.int .i64 (rd_T68 xs i).f0.f1) ∧ w.cell? ⟨(ad.add (i.toNat * 5)).block, (ad.add (i.toNat * 5)).off + 2, none⟩ = some (.int .i64 (rd_T68 xs i).f1.f0) ∧ w.cell? ⟨(ad.add (i.toNat * 5)).block, (ad.add (i.toNat * 5)).off + 3, none⟩ = some (.int .i64 (rd_T68 xs i).f1.f1) ∧ w.cell? ⟨(ad.add (i.toNat * 5)).block, (ad.add (i.toNat * 5)).off + 4, none⟩ = some (.int .i64 (rd_T68 xs i).f2) := by
  obtain ⟨ad, c, e, _, hK, hc0⟩ := Kd.C_get h z68 i h0 h1
  have hc : ∀ j u, c[j]? = some u → w.cell? (ad.add (i.toNat * 5 + j)) = some u := hc0
  obtain rfl := k68_open hK
  exact ⟨ad, e, hc 0 _ rfl, by rw [← add_field _ _ 1 (by omega)]; exact hc 1 _ rfl, by rw [← add_field _ _ 2 (by omega)]; exact hc 2 _ rfl, by rw [← add_field _ _ 3 (by omega)]; exact hc 3 _ rfl, by rw [← add_field _ _ 4 (by omega)]; exact hc 4 _ rfl⟩

end Go.Proofs.Ytpfgjagpaddcpaa.X

-- Printed by the kit's print.py for this seat (all laws in one set), called by this session.
namespace Go.Proofs.Ytpfgjagpaddcpaa.X
open Go.RowKit Go.Proofs.YtpfgjagpaddcpaaW.PrintWords Go.Proofs.YtpfgjagpaddcpaaW.PrintLast Go.Proofs.YtpfgjagpaddcpaaW.PrintMore
attribute [local go_sem] max2_int min2_int max_two min_two max_three min_three max_four min_four
set_option linter.unusedVariables false
set_option linter.unusedSimpArgs false

attribute [local go_sem high] eqA23
/-! ### plane_Meet: function 40 -/
/-! ### cmp_Or_int: function 58 -/
/-! ### plane_Cmp: function 41 -/
-- NOT PRINTED: function 72 (api_Point_72)

-- NOT PRINTED: function 60 (api_Point_60)

-- NOT PRINTED: function 42 (plane_Area)

/-! ### api_Point_61: function 61 -/
/-! ### plane_Equal: function 44 -/
-- NOT PRINTED: function 19 (cobweblaw04_alive)

/-! ### cobwebref04_Right: function 21 -/
/-! ### cobwebref04_det: function 53 -/
def cobwebref04_det.f (a0_0 : Int) (a0_1 : Int) (a1_0 : Int) (a1_1 : Int) : Option (Int) := some (wrap64 ((wrap64 (a0_0 * a1_1)) - (wrap64 (a0_1 * a1_0))))
set_option maxHeartbeats 8000000 in
set_option maxRecDepth 100000 in
theorem cobwebref04_det.calls (a0_0 : Int) (a0_1 : Int) (a1_0 : Int) (a1_1 : Int) (r : Int) (w : World) (h : cobwebref04_det.f a0_0 a0_1 a1_0 a1_1 = some r) :
    Calls Try.prog 53 #[.agg #[.int .i64 a0_0, .int .i64 a0_1], .agg #[.int .i64 a1_0, .int .i64 a1_1]] w fun e w' => e = .returned (.int .i64 r) ∧ Below w.heap.size w w' := by
  have hu23 := Try.underlying23
  have HB := Aside0.mk (Below.refl w.heap.size w)
  have H : (some (wrap64 ((wrap64 (a0_0 * a1_1)) - (wrap64 (a0_1 * a1_0))))) = some r := h
  clear h
  obtain rfl := Option.some.inj H
  go_enter Try.func53, Try.ntmps53
  go_wp2_with (first | ((with_reducible refine gate_dst (N := 2) rfl ?_); refine box_event ?hg (N := 2) ?hd (cs := #[.int .i64 a0_0, .int .i64 a0_1]) (t := 23) ?hr ?_; (case hd => rfl); (case hg => rfl); (case hr => first | (go_simp; done) | (go_simp; rfl)); intro gb165 hg w3 hbox hb; have n0_ := Aside0.mk (below_step (by repeat (first | (with_reducible first | exact HB.out | apply below_alloc | apply pw_below_drewN | apply below_drew1) | exact HB.out)) hb); have n1_ := Aside0.mk (hbox); have n2_ := Aside0.mk ((by rw [hg]; exact (below_size (by repeat (first | (with_reducible first | exact HB.out | apply below_alloc | apply pw_below_drewN | apply below_drew1) | exact HB.out))) : w.heap.size ≤ gb165)); have n3_ := Aside0.mk ((by rw [hg]; exact (below_size (by repeat (first | (with_reducible first | exact HB.out | apply below_alloc | apply pw_below_drewN | apply below_drew1) | exact HB.out))) : w.heap.size ≤ gb165)); clear HB; have HB := n0_; have BK165 := n1_; have GW165 := n2_; have GE165 := n3_; clear n0_ n1_ n2_ n3_; clear hb hbox hg) | ((with_reducible refine gate_dst (N := 3) rfl ?_); refine box_event ?hg (N := 3) ?hd (cs := #[.int .i64 a1_0, .int .i64 a1_1]) (t := 23) ?hr ?_; (case hd => rfl); (case hg => rfl); (case hr => first | (go_simp; done) | (go_simp; rfl)); intro gb166 hg w4 hbox hb; have n0_ := Aside0.mk (blk_below (g := gb165) (o := .cells #[.int .i64 a0_0, .int .i64 a0_1] 23 (0, 0)) (by (with_reducible repeat (first | refine blk_drewN ?_ _ | refine blk_drew ?_ | refine blk_alloc ?_ _)); exact BK165.out) hb); have n1_ := Aside0.mk (below_step (by repeat (first | (with_reducible first | exact HB.out | apply below_alloc | apply pw_below_drewN | apply below_drew1 | refine below_set ?_ GE165.out) | exact HB.out)) hb); have n2_ := Aside0.mk (hbox); have n3_ := Aside0.mk ((by rw [hg]; exact (below_size (by repeat (first | (with_reducible first | exact HB.out | apply below_alloc | apply pw_below_drewN | apply below_drew1 | refine below_set ?_ GE165.out) | exact HB.out))) : w.heap.size ≤ gb166)); have n4_ := Aside0.mk ((by rw [hg]; exact (below_size (by repeat (first | (with_reducible first | exact HB.out | apply below_alloc | apply pw_below_drewN | apply below_drew1 | refine below_set ?_ GE165.out) | exact HB.out))) : w.heap.size ≤ gb166)); have n5_ := Aside0.mk ((by rw [hg]; exact Nat.ne_of_lt (blk_lt (g := gb165) (o := .cells #[.int .i64 a0_0, .int .i64 a0_1] 23 (0, 0)) (by (with_reducible repeat (first | refine blk_drewN ?_ _ | refine blk_drew ?_ | refine blk_alloc ?_ _)); exact BK165.out)) : gb165 ≠ gb166)); have n6_ := Aside0.mk ((by rw [hg]; exact Nat.ne_of_gt (blk_lt (g := gb165) (o := .cells #[.int .i64 a0_0, .int .i64 a0_1] 23 (0, 0)) (by (with_reducible repeat (first | refine blk_drewN ?_ _ | refine blk_drew ?_ | refine blk_alloc ?_ _)); exact BK165.out)) : gb166 ≠ gb165)); clear BK165; clear HB; have BK165 := n0_; have HB := n1_; have BK166 := n2_; have GW166 := n3_; have GE166 := n4_; have NB165_166 := n5_; have NB166_165 := n6_; clear n0_ n1_ n2_ n3_ n4_ n5_ n6_; clear hb hbox hg; have hnb5 := NB165_166.out; have hnc5 := NB166_165.out; have hcz6_0 : w4.cell? ⟨gb165, 0, none⟩ = some (.int .i64 a0_0) := (blk_cell BK165.out 0).trans rfl; have hcz6_1 : w4.cell? ⟨gb165, 1, none⟩ = some (.int .i64 a0_1) := (blk_cell BK165.out 1).trans rfl; have hfz6_0 := blk_frozen BK165.out 0; have hfz6_1 := blk_frozen BK165.out 1; have hcz7_0 : w4.cell? ⟨gb166, 0, none⟩ = some (.int .i64 a1_0) := (blk_cell BK166.out 0).trans rfl; have hcz7_1 : w4.cell? ⟨gb166, 1, none⟩ = some (.int .i64 a1_1) := (blk_cell BK166.out 1).trans rfl; have hfz7_0 := blk_frozen BK166.out 0; have hfz7_1 := blk_frozen BK166.out 1))
  go_ret
  exact ⟨by first | rfl | (simp [errW_none, errW_some] <;> rfl) | (simp [*, errW_none, errW_some] <;> rfl), by repeat (first | (with_reducible first | exact HB.out | apply below_alloc | apply pw_below_drewN | apply below_drew1 | refine below_set ?_ GE165.out | refine below_set ?_ GE166.out) | exact HB.out)⟩

end Go.Proofs.Ytpfgjagpaddcpaa.X

-- Printed by the kit's print.py for this seat (all laws in one set), called by this session.
namespace Go.Proofs.Ytpfgjagpaddcpaa.X
open Go.RowKit Go.Proofs.YtpfgjagpaddcpaaW.PrintWords Go.Proofs.YtpfgjagpaddcpaaW.PrintLast Go.Proofs.YtpfgjagpaddcpaaW.PrintMore
attribute [local go_sem] max2_int min2_int max_two min_two max_three min_three max_four min_four
set_option linter.unusedVariables false
set_option linter.unusedSimpArgs false

/-! ### cobwebref04_Cross: function 22 -/
def cobwebref04_Cross.j0 : Nat → Bool → Int → Int → Int → Int → Int → Int → Option (Int)
  | 0, _, _, _, _, _, _, _ => none
  | k + 1, x19, x168000, x168001, x169000, x169001, x170000, x170001 => if x19 = true then (some 0) else ((cobwebref04_det.f x168000 x168001 x169000 x169001).bind fun t173 => ((cobwebref04_det.f x169000 x169001 x170000 x170001).bind fun t174 => ((cobwebref04_det.f x170000 x170001 x168000 x168001).bind fun t175 => (some (wrap64 ((wrap64 (t173 + t174)) + t175))))))
def cobwebref04_Cross.f (k : Nat) (a0_0 : Int) (a0_1 : Int) (a1_0 : Int) (a1_1 : Int) (a2_0 : Int) (a2_1 : Int) : Option (Int) := (cobwebref04_Right.f a0_0 a0_1).bind fun t170 => (if t170 = true then ((cobwebref04_Right.f a1_0 a1_1).bind fun t171 => (if t171 = true then ((cobwebref04_Right.f a2_0 a2_1).bind fun t172 => (cobwebref04_Cross.j0 k (!t172) a0_0 a0_1 a1_0 a1_1 a2_0 a2_1)) else (cobwebref04_Cross.j0 k true a0_0 a0_1 a1_0 a1_1 a2_0 a2_1))) else (cobwebref04_Cross.j0 k true a0_0 a0_1 a1_0 a1_1 a2_0 a2_1))
def cobwebref04_Cross.T3 : Bool × List (List Nat × List Nat) := (true, [([], []), ([], []), ([0, 1], [0, 1]), ([], []), ([], []), ([3, 4, 2], [3, 4]), ([2, 5], [2, 5]), ([], []), ([], []), ([7, 8, 5], [7, 8]), ([6, 9], [6, 9]), ([10, 9, 0, 1, 2, 3, 4, 5, 6, 7, 8, 9, 10], [10])])
def cobwebref04_Cross.B3 : List Nat := [0, 0, 3, 0, 0, 31, 63, 0, 0, 447, 1023, 2047]
theorem cobwebref04_Cross.tab3 : rtab .any (opsOf Try.f22 3) = cobwebref04_Cross.T3 := by kernel_rfl
theorem cobwebref04_Cross.bits3 : waitsOk cobwebref04_Cross.T3.2 cobwebref04_Cross.B3 = true := by kernel_rfl
set_option maxHeartbeats 8000000 in
set_option maxRecDepth 100000 in
theorem cobwebref04_Cross.calls (k : Nat) (a0_0 : Int) (a0_1 : Int) (a1_0 : Int) (a1_1 : Int) (a2_0 : Int) (a2_1 : Int) (r : Int) (w : World) (h : cobwebref04_Cross.f k a0_0 a0_1 a1_0 a1_1 a2_0 a2_1 = some r) :
    Calls Try.prog 22 #[.agg #[.int .i64 a0_0, .int .i64 a0_1], .agg #[.int .i64 a1_0, .int .i64 a1_1], .agg #[.int .i64 a2_0, .int .i64 a2_1]] w fun e w' => e = .returned (.int .i64 r) ∧ Below w.heap.size w w' := by
  have hu23 := Try.underlying23
  have HB := Aside0.mk (Below.refl w.heap.size w)
  have H : ((cobwebref04_Right.f a0_0 a0_1).bind fun t170 => (if t170 = true then ((cobwebref04_Right.f a1_0 a1_1).bind fun t171 => (if t171 = true then ((cobwebref04_Right.f a2_0 a2_1).bind fun t172 => (cobwebref04_Cross.j0 k (!t172) a0_0 a0_1 a1_0 a1_1 a2_0 a2_1)) else (cobwebref04_Cross.j0 k true a0_0 a0_1 a1_0 a1_1 a2_0 a2_1))) else (cobwebref04_Cross.j0 k true a0_0 a0_1 a1_0 a1_1 a2_0 a2_1))) = some r := h
  clear h
  have HC4 := Aside0.mk H
  clear H
  go_enter Try.func22, Try.ntmps22
  go_upto_region 1 with (first | ((with_reducible refine gate_dst (N := 3) rfl ?_); refine box_event ?hg (N := 3) ?hd (cs := #[.int .i64 a0_0, .int .i64 a0_1]) (t := 23) ?hr ?_; (case hd => rfl); (case hg => rfl); (case hr => first | (go_simp; done) | (go_simp; rfl)); intro gb167 hg w5 hbox hb; have n0_ := Aside0.mk (below_step (by repeat (first | (with_reducible first | exact HB.out | apply below_alloc | apply pw_below_drewN | apply below_drew1) | exact HB.out)) hb); have n1_ := Aside0.mk (hbox); have n2_ := Aside0.mk ((by rw [hg]; exact (below_size (by repeat (first | (with_reducible first | exact HB.out | apply below_alloc | apply pw_below_drewN | apply below_drew1) | exact HB.out))) : w.heap.size ≤ gb167)); have n3_ := Aside0.mk ((by rw [hg]; exact (below_size (by repeat (first | (with_reducible first | exact HB.out | apply below_alloc | apply pw_below_drewN | apply below_drew1) | exact HB.out))) : w.heap.size ≤ gb167)); clear HB; have HB := n0_; have BK167 := n1_; have GW167 := n2_; have GE167 := n3_; clear n0_ n1_ n2_ n3_; clear hb hbox hg) | ((with_reducible refine gate_dst (N := 4) rfl ?_); refine box_event ?hg (N := 4) ?hd (cs := #[.int .i64 a1_0, .int .i64 a1_1]) (t := 23) ?hr ?_; (case hd => rfl); (case hg => rfl); (case hr => first | (go_simp; done) | (go_simp; rfl)); intro gb168 hg w6 hbox hb; have n0_ := Aside0.mk (blk_below (g := gb167) (o := .cells #[.int .i64 a0_0, .int .i64 a0_1] 23 (0, 0)) (by (with_reducible repeat (first | refine blk_drewN ?_ _ | refine blk_drew ?_ | refine blk_alloc ?_ _)); exact BK167.out) hb); have n1_ := Aside0.mk (below_step (by repeat (first | (with_reducible first | exact HB.out | apply below_alloc | apply pw_below_drewN | apply below_drew1 | refine below_set ?_ GE167.out) | exact HB.out)) hb); have n2_ := Aside0.mk (hbox); have n3_ := Aside0.mk ((by rw [hg]; exact (below_size (by repeat (first | (with_reducible first | exact HB.out | apply below_alloc | apply pw_below_drewN | apply below_drew1 | refine below_set ?_ GE167.out) | exact HB.out))) : w.heap.size ≤ gb168)); have n4_ := Aside0.mk ((by rw [hg]; exact (below_size (by repeat (first | (with_reducible first | exact HB.out | apply below_alloc | apply pw_below_drewN | apply below_drew1 | refine below_set ?_ GE167.out) | exact HB.out))) : w.heap.size ≤ gb168)); have n5_ := Aside0.mk ((by rw [hg]; exact Nat.ne_of_lt (blk_lt (g := gb167) (o := .cells #[.int .i64 a0_0, .int .i64 a0_1] 23 (0, 0)) (by (with_reducible repeat (first | refine blk_drewN ?_ _ | refine blk_drew ?_ | refine blk_alloc ?_ _)); exact BK167.out)) : gb167 ≠ gb168)); have n6_ := Aside0.mk ((by rw [hg]; exact Nat.ne_of_gt (blk_lt (g := gb167) (o := .cells #[.int .i64 a0_0, .int .i64 a0_1] 23 (0, 0)) (by (with_reducible repeat (first | refine blk_drewN ?_ _ | refine blk_drew ?_ | refine blk_alloc ?_ _)); exact BK167.out)) : gb168 ≠ gb167)); clear BK167; clear HB; have BK167 := n0_; have HB := n1_; have BK168 := n2_; have GW168 := n3_; have GE168 := n4_; have NB167_168 := n5_; have NB168_167 := n6_; clear n0_ n1_ n2_ n3_ n4_ n5_ n6_; clear hb hbox hg) | ((with_reducible refine gate_dst (N := 5) rfl ?_); refine box_event ?hg (N := 5) ?hd (cs := #[.int .i64 a2_0, .int .i64 a2_1]) (t := 23) ?hr ?_; (case hd => rfl); (case hg => rfl); (case hr => first | (go_simp; done) | (go_simp; rfl)); intro gb169 hg w7 hbox hb; have n0_ := Aside0.mk (blk_below (g := gb167) (o := .cells #[.int .i64 a0_0, .int .i64 a0_1] 23 (0, 0)) (by (with_reducible repeat (first | refine blk_drewN ?_ _ | refine blk_drew ?_ | refine blk_alloc ?_ _)); exact BK167.out) hb); have n1_ := Aside0.mk (blk_below (g := gb168) (o := .cells #[.int .i64 a1_0, .int .i64 a1_1] 23 (0, 0)) (by (with_reducible repeat (first | refine blk_drewN ?_ _ | refine blk_drew ?_ | refine blk_alloc ?_ _)); exact BK168.out) hb); have n2_ := Aside0.mk (below_step (by repeat (first | (with_reducible first | exact HB.out | apply below_alloc | apply pw_below_drewN | apply below_drew1 | refine below_set ?_ GE167.out | refine below_set ?_ GE168.out) | exact HB.out)) hb); have n3_ := Aside0.mk (hbox); have n4_ := Aside0.mk ((by rw [hg]; exact (below_size (by repeat (first | (with_reducible first | exact HB.out | apply below_alloc | apply pw_below_drewN | apply below_drew1 | refine below_set ?_ GE167.out | refine below_set ?_ GE168.out) | exact HB.out))) : w.heap.size ≤ gb169)); have n5_ := Aside0.mk ((by rw [hg]; exact (below_size (by repeat (first | (with_reducible first | exact HB.out | apply below_alloc | apply pw_below_drewN | apply below_drew1 | refine below_set ?_ GE167.out | refine below_set ?_ GE168.out) | exact HB.out))) : w.heap.size ≤ gb169)); have n6_ := Aside0.mk ((by rw [hg]; exact Nat.ne_of_lt (blk_lt (g := gb167) (o := .cells #[.int .i64 a0_0, .int .i64 a0_1] 23 (0, 0)) (by (with_reducible repeat (first | refine blk_drewN ?_ _ | refine blk_drew ?_ | refine blk_alloc ?_ _)); exact BK167.out)) : gb167 ≠ gb169)); have n7_ := Aside0.mk ((by rw [hg]; exact Nat.ne_of_gt (blk_lt (g := gb167) (o := .cells #[.int .i64 a0_0, .int .i64 a0_1] 23 (0, 0)) (by (with_reducible repeat (first | refine blk_drewN ?_ _ | refine blk_drew ?_ | refine blk_alloc ?_ _)); exact BK167.out)) : gb169 ≠ gb167)); have n8_ := Aside0.mk ((by rw [hg]; exact Nat.ne_of_lt (blk_lt (g := gb168) (o := .cells #[.int .i64 a1_0, .int .i64 a1_1] 23 (0, 0)) (by (with_reducible repeat (first | refine blk_drewN ?_ _ | refine blk_drew ?_ | refine blk_alloc ?_ _)); exact BK168.out)) : gb168 ≠ gb169)); have n9_ := Aside0.mk ((by rw [hg]; exact Nat.ne_of_gt (blk_lt (g := gb168) (o := .cells #[.int .i64 a1_0, .int .i64 a1_1] 23 (0, 0)) (by (with_reducible repeat (first | refine blk_drewN ?_ _ | refine blk_drew ?_ | refine blk_alloc ?_ _)); exact BK168.out)) : gb169 ≠ gb168)); clear BK167; clear BK168; clear HB; have BK167 := n0_; have BK168 := n1_; have HB := n2_; have BK169 := n3_; have GW169 := n4_; have GE169 := n5_; have NB167_169 := n6_; have NB169_167 := n7_; have NB168_169 := n8_; have NB169_168 := n9_; clear n0_ n1_ n2_ n3_ n4_ n5_ n6_ n7_ n8_ n9_; clear hb hbox hg))
  (try simp only [Act.put, List.setIfInBounds_toArray, List.set_cons_zero, List.set_cons_succ])
  go_cut [19] (fun v19 wc => ∃ (kq : Nat) (x19_3 : Bool), v19 = .bool x19_3 ∧ Aside0 (cobwebref04_Cross.j0 kq x19_3 a0_0 a0_1 a1_0 a1_1 a2_0 a2_1 = some r) ∧ Aside0 (kq ≤ k) ∧ Aside0 (wc.heap[gb167]? = some (.cells #[.int .i64 a0_0, .int .i64 a0_1] 23 (0, 0))) ∧ Aside0 (wc.heap[gb168]? = some (.cells #[.int .i64 a1_0, .int .i64 a1_1] 23 (0, 0))) ∧ Aside0 (wc.heap[gb169]? = some (.cells #[.int .i64 a2_0, .int .i64 a2_1] 23 (0, 0))) ∧ Aside0 (Below w.heap.size w wc))
  case first =>
    have H := HC4.out
    clear HC4
    replace H := Option.bind_eq_some_iff.mp H
    obtain ⟨t170, A80, H⟩ := H
    replace H : (if t170 = true then ((cobwebref04_Right.f a1_0 a1_1).bind fun t171 => (if t171 = true then ((cobwebref04_Right.f a2_0 a2_1).bind fun t172 => (cobwebref04_Cross.j0 k (!t172) a0_0 a0_1 a1_0 a1_1 a2_0 a2_1)) else (cobwebref04_Cross.j0 k true a0_0 a0_1 a1_0 a1_1 a2_0 a2_1))) else (cobwebref04_Cross.j0 k true a0_0 a0_1 a1_0 a1_1 a2_0 a2_1)) = some r := H
    have A8 := Aside0.mk A80
    clear A80
    by_cases c9 : t170 = true
    · subst c9
      have H1 : ((cobwebref04_Right.f a1_0 a1_1).bind fun t171 => (if t171 = true then ((cobwebref04_Right.f a2_0 a2_1).bind fun t172 => (cobwebref04_Cross.j0 k (!t172) a0_0 a0_1 a1_0 a1_1 a2_0 a2_1)) else (cobwebref04_Cross.j0 k true a0_0 a0_1 a1_0 a1_1 a2_0 a2_1))) = some r := by rw [if_pos rfl] at H; exact H
      clear H
      have H := H1
      clear H1
      replace H := Option.bind_eq_some_iff.mp H
      obtain ⟨t171, A100, H⟩ := H
      replace H : (if t171 = true then ((cobwebref04_Right.f a2_0 a2_1).bind fun t172 => (cobwebref04_Cross.j0 k (!t172) a0_0 a0_1 a1_0 a1_1 a2_0 a2_1)) else (cobwebref04_Cross.j0 k true a0_0 a0_1 a1_0 a1_1 a2_0 a2_1)) = some r := H
      have A10 := Aside0.mk A100
      clear A100
      by_cases c11 : t171 = true
      · subst c11
        have H1 : ((cobwebref04_Right.f a2_0 a2_1).bind fun t172 => (cobwebref04_Cross.j0 k (!t172) a0_0 a0_1 a1_0 a1_1 a2_0 a2_1)) = some r := by rw [if_pos rfl] at H; exact H
        clear H
        have H := H1
        clear H1
        replace H := Option.bind_eq_some_iff.mp H
        obtain ⟨t172, A120, H⟩ := H
        replace H : (cobwebref04_Cross.j0 k (!t172) a0_0 a0_1 a1_0 a1_1 a2_0 a2_1) = some r := H
        have A12 := Aside0.mk A120
        clear A120
        have H' := Aside0.mk H
        clear H
        have hnb13 := NB167_168.out
        have hnc13 := NB168_167.out
        have hnb14 := NB167_169.out
        have hnc14 := NB169_167.out
        have hcz15_0 : w7.cell? ⟨gb167, 0, none⟩ = some (.int .i64 a0_0) := (blk_cell BK167.out 0).trans rfl
        have hcz15_1 : w7.cell? ⟨gb167, 1, none⟩ = some (.int .i64 a0_1) := (blk_cell BK167.out 1).trans rfl
        have hfz15_0 := blk_frozen BK167.out 0
        have hfz15_1 := blk_frozen BK167.out 1
        go_wp2_with (first | ((with_reducible refine gate_callee (f := 21) rfl ?_); refine goesL_ (some 8) rfl rfl Try.func21 (by kernel_rfl) rfl #[.agg #[.int .i64 a0_0, .int .i64 a0_1]] rfl (by (try simp only [List.map_toArray, List.map_cons, List.map_nil]); first | done | rfl | (simp only [List.length_drop, List.length_take]; rfl)) ?_; (with_reducible refine (cobwebref04_Right.calls a0_0 a0_1 true _ A8.out).mono ?_); rintro e w16 ⟨rfl, hb⟩; refine ⟨_, rfl, ?_⟩; have n0_ := Aside0.mk (blk_below (g := gb167) (o := .cells #[.int .i64 a0_0, .int .i64 a0_1] 23 (0, 0)) (by (with_reducible repeat (first | refine blk_drewN ?_ _ | refine blk_drew ?_ | refine blk_alloc ?_ _)); exact BK167.out) hb); have n1_ := Aside0.mk (blk_below (g := gb168) (o := .cells #[.int .i64 a1_0, .int .i64 a1_1] 23 (0, 0)) (by (with_reducible repeat (first | refine blk_drewN ?_ _ | refine blk_drew ?_ | refine blk_alloc ?_ _)); exact BK168.out) hb); have n2_ := Aside0.mk (blk_below (g := gb169) (o := .cells #[.int .i64 a2_0, .int .i64 a2_1] 23 (0, 0)) (by (with_reducible repeat (first | refine blk_drewN ?_ _ | refine blk_drew ?_ | refine blk_alloc ?_ _)); exact BK169.out) hb); have n3_ := Aside0.mk (below_step (by repeat (first | (with_reducible first | exact HB.out | apply below_alloc | apply pw_below_drewN | apply below_drew1 | refine below_set ?_ GE167.out | refine below_set ?_ GE168.out | refine below_set ?_ GE169.out) | exact HB.out)) hb); clear BK167; clear BK168; clear BK169; clear HB; have BK167 := n0_; have BK168 := n1_; have BK169 := n2_; have HB := n3_; clear n0_ n1_ n2_ n3_; (try clear hb); (try clear hb2); (try clear hk); (try clear hi); have hnb17 := NB168_169.out; have hnc17 := NB169_168.out; have hcz18_0 : w16.cell? ⟨gb168, 0, none⟩ = some (.int .i64 a1_0) := (blk_cell BK168.out 0).trans rfl; have hcz18_1 : w16.cell? ⟨gb168, 1, none⟩ = some (.int .i64 a1_1) := (blk_cell BK168.out 1).trans rfl; have hfz18_0 := blk_frozen BK168.out 0; have hfz18_1 := blk_frozen BK168.out 1) | (go_at_call 21; (with_reducible refine (cobwebref04_Right.calls a1_0 a1_1 true _ A10.out).mono ?_); rintro e w19 ⟨rfl, hb⟩; have n0_ := Aside0.mk (blk_below (g := gb167) (o := .cells #[.int .i64 a0_0, .int .i64 a0_1] 23 (0, 0)) (by (with_reducible repeat (first | refine blk_drewN ?_ _ | refine blk_drew ?_ | refine blk_alloc ?_ _)); exact BK167.out) hb); have n1_ := Aside0.mk (blk_below (g := gb168) (o := .cells #[.int .i64 a1_0, .int .i64 a1_1] 23 (0, 0)) (by (with_reducible repeat (first | refine blk_drewN ?_ _ | refine blk_drew ?_ | refine blk_alloc ?_ _)); exact BK168.out) hb); have n2_ := Aside0.mk (blk_below (g := gb169) (o := .cells #[.int .i64 a2_0, .int .i64 a2_1] 23 (0, 0)) (by (with_reducible repeat (first | refine blk_drewN ?_ _ | refine blk_drew ?_ | refine blk_alloc ?_ _)); exact BK169.out) hb); have n3_ := Aside0.mk (below_step (by repeat (first | (with_reducible first | exact HB.out | apply below_alloc | apply pw_below_drewN | apply below_drew1 | refine below_set ?_ GE167.out | refine below_set ?_ GE168.out | refine below_set ?_ GE169.out) | exact HB.out)) hb); clear BK167; clear BK168; clear BK169; clear HB; have BK167 := n0_; have BK168 := n1_; have BK169 := n2_; have HB := n3_; clear n0_ n1_ n2_ n3_; (try clear hb); (try clear hb2); (try clear hk); (try clear hi); have hcz20_0 : w19.cell? ⟨gb169, 0, none⟩ = some (.int .i64 a2_0) := (blk_cell BK169.out 0).trans rfl; have hcz20_1 : w19.cell? ⟨gb169, 1, none⟩ = some (.int .i64 a2_1) := (blk_cell BK169.out 1).trans rfl; have hfz20_0 := blk_frozen BK169.out 0; have hfz20_1 := blk_frozen BK169.out 1) | (go_at_call 21; (with_reducible refine (cobwebref04_Right.calls a2_0 a2_1 t172 _ A12.out).mono ?_); rintro e w21 ⟨rfl, hb⟩; have n0_ := Aside0.mk (blk_below (g := gb167) (o := .cells #[.int .i64 a0_0, .int .i64 a0_1] 23 (0, 0)) (by (with_reducible repeat (first | refine blk_drewN ?_ _ | refine blk_drew ?_ | refine blk_alloc ?_ _)); exact BK167.out) hb); have n1_ := Aside0.mk (blk_below (g := gb168) (o := .cells #[.int .i64 a1_0, .int .i64 a1_1] 23 (0, 0)) (by (with_reducible repeat (first | refine blk_drewN ?_ _ | refine blk_drew ?_ | refine blk_alloc ?_ _)); exact BK168.out) hb); have n2_ := Aside0.mk (blk_below (g := gb169) (o := .cells #[.int .i64 a2_0, .int .i64 a2_1] 23 (0, 0)) (by (with_reducible repeat (first | refine blk_drewN ?_ _ | refine blk_drew ?_ | refine blk_alloc ?_ _)); exact BK169.out) hb); have n3_ := Aside0.mk (below_step (by repeat (first | (with_reducible first | exact HB.out | apply below_alloc | apply pw_below_drewN | apply below_drew1 | refine below_set ?_ GE167.out | refine below_set ?_ GE168.out | refine below_set ?_ GE169.out) | exact HB.out)) hb); clear BK167; clear BK168; clear BK169; clear HB; have BK167 := n0_; have BK168 := n1_; have BK169 := n2_; have HB := n3_; clear n0_ n1_ n2_ n3_; (try clear hb); (try clear hb2); (try clear hk); (try clear hi)))
        go_meet
        case rel => exact ⟨_, (!t172), (by first | rfl | (simp; done) | (simp [*]; done)), H', ⟨by first | omega | exact Nat.le_refl _⟩, ⟨by (with_reducible repeat (first | refine blk_drewN ?_ _ | refine blk_drew ?_ | refine blk_alloc ?_ _)); exact BK167.out⟩, ⟨by (with_reducible repeat (first | refine blk_drewN ?_ _ | refine blk_drew ?_ | refine blk_alloc ?_ _)); exact BK168.out⟩, ⟨by (with_reducible repeat (first | refine blk_drewN ?_ _ | refine blk_drew ?_ | refine blk_alloc ?_ _)); exact BK169.out⟩, ⟨by repeat (first | (with_reducible first | exact HB.out | apply below_alloc | apply pw_below_drewN | apply below_drew1 | refine below_set ?_ GE167.out | refine below_set ?_ GE168.out | refine below_set ?_ GE169.out) | exact HB.out)⟩⟩
      · replace c11 := Bool.eq_false_iff.mpr c11
        subst c11
        have H1 : (cobwebref04_Cross.j0 k true a0_0 a0_1 a1_0 a1_1 a2_0 a2_1) = some r := by rw [if_neg (show ¬ (false = true) by decide)] at H; exact H
        clear H
        have H := H1
        clear H1
        have H' := Aside0.mk H
        clear H
        have hnb22 := NB167_168.out
        have hnc22 := NB168_167.out
        have hnb23 := NB167_169.out
        have hnc23 := NB169_167.out
        have hcz24_0 : w7.cell? ⟨gb167, 0, none⟩ = some (.int .i64 a0_0) := (blk_cell BK167.out 0).trans rfl
        have hcz24_1 : w7.cell? ⟨gb167, 1, none⟩ = some (.int .i64 a0_1) := (blk_cell BK167.out 1).trans rfl
        have hfz24_0 := blk_frozen BK167.out 0
        have hfz24_1 := blk_frozen BK167.out 1
        go_wp2_with (first | ((with_reducible refine gate_callee (f := 21) rfl ?_); refine goesL_ (some 8) rfl rfl Try.func21 (by kernel_rfl) rfl #[.agg #[.int .i64 a0_0, .int .i64 a0_1]] rfl (by (try simp only [List.map_toArray, List.map_cons, List.map_nil]); first | done | rfl | (simp only [List.length_drop, List.length_take]; rfl)) ?_; (with_reducible refine (cobwebref04_Right.calls a0_0 a0_1 true _ A8.out).mono ?_); rintro e w25 ⟨rfl, hb⟩; refine ⟨_, rfl, ?_⟩; have n0_ := Aside0.mk (blk_below (g := gb167) (o := .cells #[.int .i64 a0_0, .int .i64 a0_1] 23 (0, 0)) (by (with_reducible repeat (first | refine blk_drewN ?_ _ | refine blk_drew ?_ | refine blk_alloc ?_ _)); exact BK167.out) hb); have n1_ := Aside0.mk (blk_below (g := gb168) (o := .cells #[.int .i64 a1_0, .int .i64 a1_1] 23 (0, 0)) (by (with_reducible repeat (first | refine blk_drewN ?_ _ | refine blk_drew ?_ | refine blk_alloc ?_ _)); exact BK168.out) hb); have n2_ := Aside0.mk (blk_below (g := gb169) (o := .cells #[.int .i64 a2_0, .int .i64 a2_1] 23 (0, 0)) (by (with_reducible repeat (first | refine blk_drewN ?_ _ | refine blk_drew ?_ | refine blk_alloc ?_ _)); exact BK169.out) hb); have n3_ := Aside0.mk (below_step (by repeat (first | (with_reducible first | exact HB.out | apply below_alloc | apply pw_below_drewN | apply below_drew1 | refine below_set ?_ GE167.out | refine below_set ?_ GE168.out | refine below_set ?_ GE169.out) | exact HB.out)) hb); clear BK167; clear BK168; clear BK169; clear HB; have BK167 := n0_; have BK168 := n1_; have BK169 := n2_; have HB := n3_; clear n0_ n1_ n2_ n3_; (try clear hb); (try clear hb2); (try clear hk); (try clear hi); have hnb26 := NB168_169.out; have hnc26 := NB169_168.out; have hcz27_0 : w25.cell? ⟨gb168, 0, none⟩ = some (.int .i64 a1_0) := (blk_cell BK168.out 0).trans rfl; have hcz27_1 : w25.cell? ⟨gb168, 1, none⟩ = some (.int .i64 a1_1) := (blk_cell BK168.out 1).trans rfl; have hfz27_0 := blk_frozen BK168.out 0; have hfz27_1 := blk_frozen BK168.out 1) | (go_at_call 21; (with_reducible refine (cobwebref04_Right.calls a1_0 a1_1 false _ A10.out).mono ?_); rintro e w28 ⟨rfl, hb⟩; have n0_ := Aside0.mk (blk_below (g := gb167) (o := .cells #[.int .i64 a0_0, .int .i64 a0_1] 23 (0, 0)) (by (with_reducible repeat (first | refine blk_drewN ?_ _ | refine blk_drew ?_ | refine blk_alloc ?_ _)); exact BK167.out) hb); have n1_ := Aside0.mk (blk_below (g := gb168) (o := .cells #[.int .i64 a1_0, .int .i64 a1_1] 23 (0, 0)) (by (with_reducible repeat (first | refine blk_drewN ?_ _ | refine blk_drew ?_ | refine blk_alloc ?_ _)); exact BK168.out) hb); have n2_ := Aside0.mk (blk_below (g := gb169) (o := .cells #[.int .i64 a2_0, .int .i64 a2_1] 23 (0, 0)) (by (with_reducible repeat (first | refine blk_drewN ?_ _ | refine blk_drew ?_ | refine blk_alloc ?_ _)); exact BK169.out) hb); have n3_ := Aside0.mk (below_step (by repeat (first | (with_reducible first | exact HB.out | apply below_alloc | apply pw_below_drewN | apply below_drew1 | refine below_set ?_ GE167.out | refine below_set ?_ GE168.out | refine below_set ?_ GE169.out) | exact HB.out)) hb); clear BK167; clear BK168; clear BK169; clear HB; have BK167 := n0_; have BK168 := n1_; have BK169 := n2_; have HB := n3_; clear n0_ n1_ n2_ n3_; (try clear hb); (try clear hb2); (try clear hk); (try clear hi)))
        go_meet
        case rel => exact ⟨_, (true), (by first | rfl | (simp; done) | (simp [*]; done)), H', ⟨by first | omega | exact Nat.le_refl _⟩, ⟨by (with_reducible repeat (first | refine blk_drewN ?_ _ | refine blk_drew ?_ | refine blk_alloc ?_ _)); exact BK167.out⟩, ⟨by (with_reducible repeat (first | refine blk_drewN ?_ _ | refine blk_drew ?_ | refine blk_alloc ?_ _)); exact BK168.out⟩, ⟨by (with_reducible repeat (first | refine blk_drewN ?_ _ | refine blk_drew ?_ | refine blk_alloc ?_ _)); exact BK169.out⟩, ⟨by repeat (first | (with_reducible first | exact HB.out | apply below_alloc | apply pw_below_drewN | apply below_drew1 | refine below_set ?_ GE167.out | refine below_set ?_ GE168.out | refine below_set ?_ GE169.out) | exact HB.out)⟩⟩
    · replace c9 := Bool.eq_false_iff.mpr c9
      subst c9
      have H1 : (cobwebref04_Cross.j0 k true a0_0 a0_1 a1_0 a1_1 a2_0 a2_1) = some r := by rw [if_neg (show ¬ (false = true) by decide)] at H; exact H
      clear H
      have H := H1
      clear H1
      have H' := Aside0.mk H
      clear H
      have hnb29 := NB167_168.out
      have hnc29 := NB168_167.out
      have hnb30 := NB167_169.out
      have hnc30 := NB169_167.out
      have hcz31_0 : w7.cell? ⟨gb167, 0, none⟩ = some (.int .i64 a0_0) := (blk_cell BK167.out 0).trans rfl
      have hcz31_1 : w7.cell? ⟨gb167, 1, none⟩ = some (.int .i64 a0_1) := (blk_cell BK167.out 1).trans rfl
      have hfz31_0 := blk_frozen BK167.out 0
      have hfz31_1 := blk_frozen BK167.out 1
      go_wp2_with (first | ((with_reducible refine gate_callee (f := 21) rfl ?_); refine goesL_ (some 8) rfl rfl Try.func21 (by kernel_rfl) rfl #[.agg #[.int .i64 a0_0, .int .i64 a0_1]] rfl (by (try simp only [List.map_toArray, List.map_cons, List.map_nil]); first | done | rfl | (simp only [List.length_drop, List.length_take]; rfl)) ?_; (with_reducible refine (cobwebref04_Right.calls a0_0 a0_1 false _ A8.out).mono ?_); rintro e w32 ⟨rfl, hb⟩; refine ⟨_, rfl, ?_⟩; have n0_ := Aside0.mk (blk_below (g := gb167) (o := .cells #[.int .i64 a0_0, .int .i64 a0_1] 23 (0, 0)) (by (with_reducible repeat (first | refine blk_drewN ?_ _ | refine blk_drew ?_ | refine blk_alloc ?_ _)); exact BK167.out) hb); have n1_ := Aside0.mk (blk_below (g := gb168) (o := .cells #[.int .i64 a1_0, .int .i64 a1_1] 23 (0, 0)) (by (with_reducible repeat (first | refine blk_drewN ?_ _ | refine blk_drew ?_ | refine blk_alloc ?_ _)); exact BK168.out) hb); have n2_ := Aside0.mk (blk_below (g := gb169) (o := .cells #[.int .i64 a2_0, .int .i64 a2_1] 23 (0, 0)) (by (with_reducible repeat (first | refine blk_drewN ?_ _ | refine blk_drew ?_ | refine blk_alloc ?_ _)); exact BK169.out) hb); have n3_ := Aside0.mk (below_step (by repeat (first | (with_reducible first | exact HB.out | apply below_alloc | apply pw_below_drewN | apply below_drew1 | refine below_set ?_ GE167.out | refine below_set ?_ GE168.out | refine below_set ?_ GE169.out) | exact HB.out)) hb); clear BK167; clear BK168; clear BK169; clear HB; have BK167 := n0_; have BK168 := n1_; have BK169 := n2_; have HB := n3_; clear n0_ n1_ n2_ n3_; (try clear hb); (try clear hb2); (try clear hk); (try clear hi)))
      go_meet
      case rel => exact ⟨_, (true), (by first | rfl | (simp; done) | (simp [*]; done)), H', ⟨by first | omega | exact Nat.le_refl _⟩, ⟨by (with_reducible repeat (first | refine blk_drewN ?_ _ | refine blk_drew ?_ | refine blk_alloc ?_ _)); exact BK167.out⟩, ⟨by (with_reducible repeat (first | refine blk_drewN ?_ _ | refine blk_drew ?_ | refine blk_alloc ?_ _)); exact BK168.out⟩, ⟨by (with_reducible repeat (first | refine blk_drewN ?_ _ | refine blk_drew ?_ | refine blk_alloc ?_ _)); exact BK169.out⟩, ⟨by repeat (first | (with_reducible first | exact HB.out | apply below_alloc | apply pw_below_drewN | apply below_drew1 | refine below_set ?_ GE167.out | refine below_set ?_ GE168.out | refine below_set ?_ GE169.out) | exact HB.out)⟩⟩
  case rest =>
    clear HC4
    try clear c1
    try clear c2
    try clear p2
    try clear c3
    try clear c9
    try clear c11
    try clear c13
    try clear c14
    try clear c17
    try clear c21
    try clear c22
    try clear c23
    try clear c26
    try clear c29
    try clear c30
    try clear hcz15_0
    try clear hcz15_1
    try clear hcz18_0
    try clear hcz18_1
    try clear hcz20_0
    try clear hcz20_1
    try clear hcz24_0
    try clear hcz24_1
    try clear hcz27_0
    try clear hcz27_1
    try clear hcz31_0
    try clear hcz31_1
    try clear hfz15_0
    try clear hfz15_1
    try clear hfz18_0
    try clear hfz18_1
    try clear hfz20_0
    try clear hfz20_1
    try clear hfz24_0
    try clear hfz24_1
    try clear hfz27_0
    try clear hfz27_1
    try clear hfz31_0
    try clear hfz31_1
    obtain ⟨kq, x19_3, rfl, HA, HJ3, BK167, BK168, BK169, HB⟩ := hcut
    cases kq with
    | zero => exact absurd HA.out (by simp [cobwebref04_Cross.j0])
    | succ kj3 =>
      have H := HA.out
      clear HA
      simp only [cobwebref04_Cross.j0] at H
      by_cases c33 : x19_3 = true
      · subst c33
        have H1 : (some 0) = some r := by rw [if_pos rfl] at H; exact H
        clear H
        have H := H1
        clear H1
        obtain rfl := Option.some.inj H
        go_wp2
        go_ret
        exact ⟨by first | rfl | (simp [errW_none, errW_some] <;> rfl) | (simp [*, errW_none, errW_some] <;> rfl), by repeat (first | (with_reducible first | exact HB.out | apply below_alloc | apply pw_below_drewN | apply below_drew1 | refine below_set ?_ GE167.out | refine below_set ?_ GE168.out | refine below_set ?_ GE169.out) | exact HB.out)⟩
      · replace c33 := Bool.eq_false_iff.mpr c33
        subst c33
        have H1 : ((cobwebref04_det.f a0_0 a0_1 a1_0 a1_1).bind fun t173 => ((cobwebref04_det.f a1_0 a1_1 a2_0 a2_1).bind fun t174 => ((cobwebref04_det.f a2_0 a2_1 a0_0 a0_1).bind fun t175 => (some (wrap64 ((wrap64 (t173 + t174)) + t175)))))) = some r := by rw [if_neg (show ¬ (false = true) by decide)] at H; exact H
        clear H
        have H := H1
        clear H1
        replace H := Option.bind_eq_some_iff.mp H
        obtain ⟨t173, A340, H⟩ := H
        replace H : ((cobwebref04_det.f a1_0 a1_1 a2_0 a2_1).bind fun t174 => ((cobwebref04_det.f a2_0 a2_1 a0_0 a0_1).bind fun t175 => (some (wrap64 ((wrap64 (t173 + t174)) + t175))))) = some r := H
        have A34 := Aside0.mk A340
        clear A340
        replace H := Option.bind_eq_some_iff.mp H
        obtain ⟨t174, A350, H⟩ := H
        replace H : ((cobwebref04_det.f a2_0 a2_1 a0_0 a0_1).bind fun t175 => (some (wrap64 ((wrap64 (t173 + t174)) + t175)))) = some r := H
        have A35 := Aside0.mk A350
        clear A350
        replace H := Option.bind_eq_some_iff.mp H
        obtain ⟨t175, A360, H⟩ := H
        replace H : (some (wrap64 ((wrap64 (t173 + t174)) + t175))) = some r := H
        have A36 := Aside0.mk A360
        clear A360
        obtain rfl := Option.some.inj H
        try go_wp2
        have n0_ := Aside0.mk (blk_drew BK167.out)
        have n1_ := Aside0.mk (blk_drew BK168.out)
        have n2_ := Aside0.mk (blk_drew BK169.out)
        have n3_ := Aside0.mk (below_drew1 HB.out)
        clear BK167
        clear BK168
        clear BK169
        clear HB
        have BK167 := n0_
        have BK168 := n1_
        have BK169 := n2_
        have HB := n3_
        clear n0_ n1_ n2_ n3_
        refine start_ (n := 12) (S := fun w' => w'.cell? ⟨gb167, 0, none⟩ = some (.int .i64 a0_0) ∧ w'.cell? ⟨gb167, 1, none⟩ = some (.int .i64 a0_1) ∧ w'.cell? ⟨gb168, 0, none⟩ = some (.int .i64 a1_0) ∧ w'.cell? ⟨gb168, 1, none⟩ = some (.int .i64 a1_1) ∧ w'.cell? ⟨gb169, 0, none⟩ = some (.int .i64 a2_0) ∧ w'.cell? ⟨gb169, 1, none⟩ = some (.int .i64 a2_1)) (ds := []) #[false, false, false, false, false, false, false, false, false, false, false, false] (by kernel_rfl) rfl rfl ⟨(blk_cell BK167.out 0).trans rfl, (blk_cell BK167.out 1).trans rfl, (blk_cell BK168.out 0).trans rfl, (blk_cell BK168.out 1).trans rfl, (blk_cell BK169.out 0).trans rfl, (blk_cell BK169.out 1).trans rfl⟩ (fun hHeld => ?_); refine with_tabW cobwebref04_Cross.tab3 cobwebref04_Cross.bits3 (fun HT_ HW_ => ?_)
        generalize wc.drew = w37 at BK167 BK168 BK169 HB hHeld ⊢
        refine take_ (i := 0) (N := some 20) (v := ?_) (a' := ?_) #[true, false, false, false, false, false, false, false, false, false, false, false] rfl rfl (take_ofW HT_.out HW_.out (by kernel_rfl)) (fun _ _ _ h => h) (Or.inl ⟨by rfl, ?_⟩) hHeld ?_ ?_
        rotate_left
        · rintro w' ⟨s0, s1, s2, s3, s4, s5⟩
          go_simp
          with_reducible rfl
        rotate_left
        · simp only [Act.put, List.setIfInBounds_toArray, List.set_cons_zero, List.set_cons_succ, i64_w, i32_w]
          rfl
        refine take_ (i := 1) (N := some 21) (v := ?_) (a' := ?_) #[true, true, false, false, false, false, false, false, false, false, false, false] rfl rfl (take_ofW HT_.out HW_.out (by kernel_rfl)) (fun _ _ _ h => h) (Or.inl ⟨by rfl, ?_⟩) hHeld ?_ ?_
        rotate_left
        · rintro w' ⟨s0, s1, s2, s3, s4, s5⟩
          go_simp
          with_reducible rfl
        rotate_left
        · simp only [Act.put, List.setIfInBounds_toArray, List.set_cons_zero, List.set_cons_succ, i64_w, i32_w]
          rfl
        refine take_ (i := 3) (N := some 23) (v := ?_) (a' := ?_) #[true, true, false, true, false, false, false, false, false, false, false, false] rfl rfl (take_ofW HT_.out HW_.out (by kernel_rfl)) (fun _ _ _ h => h) (Or.inl ⟨by rfl, ?_⟩) hHeld ?_ ?_
        rotate_left
        · rintro w' ⟨s0, s1, s2, s3, s4, s5⟩
          go_simp
          with_reducible rfl
        rotate_left
        · simp only [Act.put, List.setIfInBounds_toArray, List.set_cons_zero, List.set_cons_succ, i64_w, i32_w]
          rfl
        refine take_ (i := 4) (N := some 24) (v := ?_) (a' := ?_) #[true, true, false, true, true, false, false, false, false, false, false, false] rfl rfl (take_ofW HT_.out HW_.out (by kernel_rfl)) (fun _ _ _ h => h) (Or.inl ⟨by rfl, ?_⟩) hHeld ?_ ?_
        rotate_left
        · rintro w' ⟨s0, s1, s2, s3, s4, s5⟩
          go_simp
          with_reducible rfl
        rotate_left
        · simp only [Act.put, List.setIfInBounds_toArray, List.set_cons_zero, List.set_cons_succ, i64_w, i32_w]
          rfl
        refine take_ (i := 7) (N := some 27) (v := ?_) (a' := ?_) #[true, true, false, true, true, false, false, true, false, false, false, false] rfl rfl (take_ofW HT_.out HW_.out (by kernel_rfl)) (fun _ _ _ h => h) (Or.inl ⟨by rfl, ?_⟩) hHeld ?_ ?_
        rotate_left
        · rintro w' ⟨s0, s1, s2, s3, s4, s5⟩
          go_simp
          with_reducible rfl
        rotate_left
        · simp only [Act.put, List.setIfInBounds_toArray, List.set_cons_zero, List.set_cons_succ, i64_w, i32_w]
          rfl
        refine take_ (i := 8) (N := some 28) (v := ?_) (a' := ?_) #[true, true, false, true, true, false, false, true, true, false, false, false] rfl rfl (take_ofW HT_.out HW_.out (by kernel_rfl)) (fun _ _ _ h => h) (Or.inl ⟨by rfl, ?_⟩) hHeld ?_ ?_
        rotate_left
        · rintro w' ⟨s0, s1, s2, s3, s4, s5⟩
          go_simp
          with_reducible rfl
        rotate_left
        · simp only [Act.put, List.setIfInBounds_toArray, List.set_cons_zero, List.set_cons_succ, i64_w, i32_w]
          rfl
        refine one_ (i := 2) (N := some 22) #[true, true, true, true, true, false, false, true, true, false, false, false] rfl rfl (one_of HT_.out (by kernel_rfl)) (by decide) (fun K hK => ?_)
        refine goes_ Try.func53 (by kernel_rfl) rfl #[.agg #[.int .i64 a0_0, .int .i64 a0_1], .agg #[.int .i64 a1_0, .int .i64 a1_1]] (by rfl) rfl rfl (by (try simp only [List.map_toArray, List.map_cons, List.map_nil]); first | done | rfl | (simp only [List.length_drop, List.length_take]; rfl)) ?_
        with_reducible refine (cobwebref04_det.calls a0_0 a0_1 a1_0 a1_1 t173 _ A34.out).mono ?_
        rintro e w38 ⟨rfl, hb⟩
        refine ⟨_, rfl, ?_⟩
        have n0_ := Aside0.mk (blk_below (g := gb167) (o := .cells #[.int .i64 a0_0, .int .i64 a0_1] 23 (0, 0)) (by (with_reducible repeat (first | refine blk_drewN ?_ _ | refine blk_drew ?_ | refine blk_alloc ?_ _)); exact BK167.out) hb)
        have n1_ := Aside0.mk (blk_below (g := gb168) (o := .cells #[.int .i64 a1_0, .int .i64 a1_1] 23 (0, 0)) (by (with_reducible repeat (first | refine blk_drewN ?_ _ | refine blk_drew ?_ | refine blk_alloc ?_ _)); exact BK168.out) hb)
        have n2_ := Aside0.mk (blk_below (g := gb169) (o := .cells #[.int .i64 a2_0, .int .i64 a2_1] 23 (0, 0)) (by (with_reducible repeat (first | refine blk_drewN ?_ _ | refine blk_drew ?_ | refine blk_alloc ?_ _)); exact BK169.out) hb)
        have n3_ := Aside0.mk (below_step (by repeat (first | (with_reducible first | exact HB.out | apply below_alloc | apply pw_below_drewN | apply below_drew1 | refine below_set ?_ GE167.out | refine below_set ?_ GE168.out | refine below_set ?_ GE169.out) | exact HB.out)) hb)
        clear BK167
        clear BK168
        clear BK169
        clear HB
        have BK167 := n0_
        have BK168 := n1_
        have BK169 := n2_
        have HB := n3_
        clear n0_ n1_ n2_ n3_
        (try clear hb)
        (try clear hb2)
        (try clear hk)
        (try clear hi)
        refine hK.out _ _ ⟨(blk_cell BK167.out 0).trans rfl, (blk_cell BK167.out 1).trans rfl, (blk_cell BK168.out 0).trans rfl, (blk_cell BK168.out 1).trans rfl, (blk_cell BK169.out 0).trans rfl, (blk_cell BK169.out 1).trans rfl⟩ (fun hHeld => ?_)
        clear hK K
        refine norm_ (a' := ?_) ?_ ?_
        rotate_left
        · show Act.put _ (some 22) _ = _
          simp only [Act.put, List.setIfInBounds_toArray, List.set_cons_zero, List.set_cons_succ, i64_w, i32_w]
          rfl
        refine one_ (i := 5) (N := some 25) #[true, true, true, true, true, true, false, true, true, false, false, false] rfl rfl (one_of HT_.out (by kernel_rfl)) (by decide) (fun K hK => ?_)
        refine goes_ Try.func53 (by kernel_rfl) rfl #[.agg #[.int .i64 a1_0, .int .i64 a1_1], .agg #[.int .i64 a2_0, .int .i64 a2_1]] (by rfl) rfl rfl (by (try simp only [List.map_toArray, List.map_cons, List.map_nil]); first | done | rfl | (simp only [List.length_drop, List.length_take]; rfl)) ?_
        with_reducible refine (cobwebref04_det.calls a1_0 a1_1 a2_0 a2_1 t174 _ A35.out).mono ?_
        rintro e w39 ⟨rfl, hb⟩
        refine ⟨_, rfl, ?_⟩
        have n0_ := Aside0.mk (blk_below (g := gb167) (o := .cells #[.int .i64 a0_0, .int .i64 a0_1] 23 (0, 0)) (by (with_reducible repeat (first | refine blk_drewN ?_ _ | refine blk_drew ?_ | refine blk_alloc ?_ _)); exact BK167.out) hb)
        have n1_ := Aside0.mk (blk_below (g := gb168) (o := .cells #[.int .i64 a1_0, .int .i64 a1_1] 23 (0, 0)) (by (with_reducible repeat (first | refine blk_drewN ?_ _ | refine blk_drew ?_ | refine blk_alloc ?_ _)); exact BK168.out) hb)
        have n2_ := Aside0.mk (blk_below (g := gb169) (o := .cells #[.int .i64 a2_0, .int .i64 a2_1] 23 (0, 0)) (by (with_reducible repeat (first | refine blk_drewN ?_ _ | refine blk_drew ?_ | refine blk_alloc ?_ _)); exact BK169.out) hb)
        have n3_ := Aside0.mk (below_step (by repeat (first | (with_reducible first | exact HB.out | apply below_alloc | apply pw_below_drewN | apply below_drew1 | refine below_set ?_ GE167.out | refine below_set ?_ GE168.out | refine below_set ?_ GE169.out) | exact HB.out)) hb)
        clear BK167
        clear BK168
        clear BK169
        clear HB
        have BK167 := n0_
        have BK168 := n1_
        have BK169 := n2_
        have HB := n3_
        clear n0_ n1_ n2_ n3_
        (try clear hb)
        (try clear hb2)
        (try clear hk)
        (try clear hi)
        refine hK.out _ _ ⟨(blk_cell BK167.out 0).trans rfl, (blk_cell BK167.out 1).trans rfl, (blk_cell BK168.out 0).trans rfl, (blk_cell BK168.out 1).trans rfl, (blk_cell BK169.out 0).trans rfl, (blk_cell BK169.out 1).trans rfl⟩ (fun hHeld => ?_)
        clear hK K
        refine norm_ (a' := ?_) ?_ ?_
        rotate_left
        · show Act.put _ (some 25) _ = _
          simp only [Act.put, List.setIfInBounds_toArray, List.set_cons_zero, List.set_cons_succ, i64_w, i32_w]
          rfl
        refine pure_ (i := 6) (N := some 26) (v := ?_) (a' := ?_) #[true, true, true, true, true, true, true, true, true, false, false, false] rfl rfl (any_of HT_.out (by kernel_rfl)) (fun _ _ _ h => h) (Or.inl ⟨by rfl, ?_⟩) ?_ ?_
        rotate_left
        · intro w'
          go_simp
          with_reducible rfl
        rotate_left
        · simp only [Act.put, List.setIfInBounds_toArray, List.set_cons_zero, List.set_cons_succ, i64_w, i32_w]
          rfl
        refine one_ (i := 9) (N := some 29) #[true, true, true, true, true, true, true, true, true, true, false, false] rfl rfl (one_of HT_.out (by kernel_rfl)) (by decide) (fun K hK => ?_)
        refine goes_ Try.func53 (by kernel_rfl) rfl #[.agg #[.int .i64 a2_0, .int .i64 a2_1], .agg #[.int .i64 a0_0, .int .i64 a0_1]] (by rfl) rfl rfl (by (try simp only [List.map_toArray, List.map_cons, List.map_nil]); first | done | rfl | (simp only [List.length_drop, List.length_take]; rfl)) ?_
        with_reducible refine (cobwebref04_det.calls a2_0 a2_1 a0_0 a0_1 t175 _ A36.out).mono ?_
        rintro e w40 ⟨rfl, hb⟩
        refine ⟨_, rfl, ?_⟩
        have n0_ := Aside0.mk (blk_below (g := gb167) (o := .cells #[.int .i64 a0_0, .int .i64 a0_1] 23 (0, 0)) (by (with_reducible repeat (first | refine blk_drewN ?_ _ | refine blk_drew ?_ | refine blk_alloc ?_ _)); exact BK167.out) hb)
        have n1_ := Aside0.mk (blk_below (g := gb168) (o := .cells #[.int .i64 a1_0, .int .i64 a1_1] 23 (0, 0)) (by (with_reducible repeat (first | refine blk_drewN ?_ _ | refine blk_drew ?_ | refine blk_alloc ?_ _)); exact BK168.out) hb)
        have n2_ := Aside0.mk (blk_below (g := gb169) (o := .cells #[.int .i64 a2_0, .int .i64 a2_1] 23 (0, 0)) (by (with_reducible repeat (first | refine blk_drewN ?_ _ | refine blk_drew ?_ | refine blk_alloc ?_ _)); exact BK169.out) hb)
        have n3_ := Aside0.mk (below_step (by repeat (first | (with_reducible first | exact HB.out | apply below_alloc | apply pw_below_drewN | apply below_drew1 | refine below_set ?_ GE167.out | refine below_set ?_ GE168.out | refine below_set ?_ GE169.out) | exact HB.out)) hb)
        clear BK167
        clear BK168
        clear BK169
        clear HB
        have BK167 := n0_
        have BK168 := n1_
        have BK169 := n2_
        have HB := n3_
        clear n0_ n1_ n2_ n3_
        (try clear hb)
        (try clear hb2)
        (try clear hk)
        (try clear hi)
        refine hK.out _ _ ⟨(blk_cell BK167.out 0).trans rfl, (blk_cell BK167.out 1).trans rfl, (blk_cell BK168.out 0).trans rfl, (blk_cell BK168.out 1).trans rfl, (blk_cell BK169.out 0).trans rfl, (blk_cell BK169.out 1).trans rfl⟩ (fun hHeld => ?_)
        clear hK K
        refine norm_ (a' := ?_) ?_ ?_
        rotate_left
        · show Act.put _ (some 29) _ = _
          simp only [Act.put, List.setIfInBounds_toArray, List.set_cons_zero, List.set_cons_succ, i64_w, i32_w]
          rfl
        refine pure_ (i := 10) (N := some 30) (v := ?_) (a' := ?_) #[true, true, true, true, true, true, true, true, true, true, true, false] rfl rfl (any_of HT_.out (by kernel_rfl)) (fun _ _ _ h => h) (Or.inl ⟨by rfl, ?_⟩) ?_ ?_
        rotate_left
        · intro w'
          go_simp
          with_reducible rfl
        rotate_left
        · simp only [Act.put, List.setIfInBounds_toArray, List.set_cons_zero, List.set_cons_succ, i64_w, i32_w]
          rfl
        refine pure_ (i := 11) (N := some 6) (v := ?_) (a' := ?_) #[true, true, true, true, true, true, true, true, true, true, true, true] rfl rfl (any_of HT_.out (by kernel_rfl)) (fun _ _ _ h => h) (Or.inl ⟨by rfl, ?_⟩) ?_ ?_
        rotate_left
        · intro w'
          go_simp
          with_reducible rfl
        rotate_left
        · simp only [Act.put, List.setIfInBounds_toArray, List.set_cons_zero, List.set_cons_succ, i64_w, i32_w]
          rfl
        refine done_ (done_of HT_.out (by kernel_rfl)) ?_
        try go_wp2
        go_ret
        exact ⟨by first | rfl | (simp [errW_none, errW_some] <;> rfl) | (simp [*, errW_none, errW_some] <;> rfl), by repeat (first | (with_reducible first | exact HB.out | apply below_alloc | apply pw_below_drewN | apply below_drew1 | refine below_set ?_ GE167.out | refine below_set ?_ GE168.out | refine below_set ?_ GE169.out) | exact HB.out)⟩

/-! ### cobwebref04_Sign: function 24 -/
-- NOT PRINTED: function 3 (cobweblaw04_PlaneTurns)

/-! ### cobweblaw04_near: function 25 -/
-- NOT PRINTED: function 4 (cobweblaw04_PlaneOrder)

/-! ### cobwebref04_between: function 55 -/
def cobwebref04_between.f (a0 : Int) (a1 : Int) (a2 : Int) : Option (Bool) := if a1 ≤ a0 then (if a0 ≤ a2 then (some true) else (if a2 ≤ a0 then (some (decide (a0 ≤ a1))) else (some false))) else (if a2 ≤ a0 then (some (decide (a0 ≤ a1))) else (some false))
set_option maxHeartbeats 8000000 in
set_option maxRecDepth 100000 in
theorem cobwebref04_between.calls (a0 : Int) (a1 : Int) (a2 : Int) (r : Bool) (w : World) (h : cobwebref04_between.f a0 a1 a2 = some r) :
    Calls Try.prog 55 #[.int .i64 a0, .int .i64 a1, .int .i64 a2] w fun e w' => e = .returned (.bool r) ∧ Drawn0 w w' := by
  have H : (if a1 ≤ a0 then (if a0 ≤ a2 then (some true) else (if a2 ≤ a0 then (some (decide (a0 ≤ a1))) else (some false))) else (if a2 ≤ a0 then (some (decide (a0 ≤ a1))) else (some false))) = some r := h
  clear h
  by_cases c4 : a1 ≤ a0
  · rw [if_pos c4] at H
    have c4b0 : decide (a1 ≤ a0) = true := decide_eq_true c4
    clear c4
    by_cases c5 : a0 ≤ a2
    · rw [if_pos c5] at H
      have c5b0 : decide (a0 ≤ a2) = true := decide_eq_true c5
      clear c5
      obtain rfl := Option.some.inj H
      go_enter Try.func55, Try.ntmps55
      go_wp2
      go_ret
      exact ⟨by first | rfl | (simp; done) | (simp [*]; done), by repeat (first | exact Drawn0.refl _ | apply Drawn0.step)⟩
    · rw [if_neg c5] at H
      have c5b0 : decide (a0 ≤ a2) = false := decide_eq_false c5
      clear c5
      by_cases c6 : a2 ≤ a0
      · rw [if_pos c6] at H
        have c6b0 : decide (a2 ≤ a0) = true := decide_eq_true c6
        clear c6
        obtain rfl := Option.some.inj H
        go_enter Try.func55, Try.ntmps55
        go_wp2
        go_ret
        exact ⟨by first | rfl | (simp; done) | (simp [*]; done), by repeat (first | exact Drawn0.refl _ | apply Drawn0.step)⟩
      · rw [if_neg c6] at H
        have c6b0 : decide (a2 ≤ a0) = false := decide_eq_false c6
        clear c6
        obtain rfl := Option.some.inj H
        go_enter Try.func55, Try.ntmps55
        go_wp2
        go_ret
        exact ⟨by first | rfl | (simp; done) | (simp [*]; done), by repeat (first | exact Drawn0.refl _ | apply Drawn0.step)⟩
  · rw [if_neg c4] at H
    have c4b0 : decide (a1 ≤ a0) = false := decide_eq_false c4
    clear c4
    by_cases c7 : a2 ≤ a0
    · rw [if_pos c7] at H
      have c7b0 : decide (a2 ≤ a0) = true := decide_eq_true c7
      clear c7
      obtain rfl := Option.some.inj H
      go_enter Try.func55, Try.ntmps55
      go_wp2
      go_ret
      exact ⟨by first | rfl | (simp; done) | (simp [*]; done), by repeat (first | exact Drawn0.refl _ | apply Drawn0.step)⟩
    · rw [if_neg c7] at H
      have c7b0 : decide (a2 ≤ a0) = false := decide_eq_false c7
      clear c7
      obtain rfl := Option.some.inj H
      go_enter Try.func55, Try.ntmps55
      go_wp2
      go_ret
      exact ⟨by first | rfl | (simp; done) | (simp [*]; done), by repeat (first | exact Drawn0.refl _ | apply Drawn0.step)⟩

/-! ### cobwebref04_On: function 27 -/
def cobwebref04_On.f (k : Nat) (a0_0 : Int) (a0_1 : Int) (a1_0 : Int) (a1_1 : Int) (a2_0 : Int) (a2_1 : Int) : Option (Bool) := (cobwebref04_Right.f a0_0 a0_1).bind fun t184 => (if t184 = true then ((cobwebref04_Right.f a1_0 a1_1).bind fun t185 => (if t185 = true then ((cobwebref04_Right.f a2_0 a2_1).bind fun t186 => (if t186 = true then ((cobwebref04_Cross.f k a1_0 a1_1 a0_0 a0_1 a2_0 a2_1).bind fun t187 => (if t187 = 0 then ((cobwebref04_between.f a0_0 a1_0 a2_0).bind fun t188 => (if t188 = true then ((cobwebref04_between.f a0_1 a1_1 a2_1).bind fun t189 => (some t189)) else (some false))) else (some false))) else (some false))) else (some false))) else (some false))
set_option maxHeartbeats 8000000 in
set_option maxRecDepth 100000 in
theorem cobwebref04_On.calls (k : Nat) (a0_0 : Int) (a0_1 : Int) (a1_0 : Int) (a1_1 : Int) (a2_0 : Int) (a2_1 : Int) (r : Bool) (w : World) (h : cobwebref04_On.f k a0_0 a0_1 a1_0 a1_1 a2_0 a2_1 = some r) :
    Calls Try.prog 27 #[.agg #[.int .i64 a0_0, .int .i64 a0_1], .agg #[.int .i64 a1_0, .int .i64 a1_1], .agg #[.int .i64 a2_0, .int .i64 a2_1]] w fun e w' => e = .returned (.bool r) ∧ Below w.heap.size w w' := by
  have hu23 := Try.underlying23
  have HB := Aside0.mk (Below.refl w.heap.size w)
  have H : ((cobwebref04_Right.f a0_0 a0_1).bind fun t184 => (if t184 = true then ((cobwebref04_Right.f a1_0 a1_1).bind fun t185 => (if t185 = true then ((cobwebref04_Right.f a2_0 a2_1).bind fun t186 => (if t186 = true then ((cobwebref04_Cross.f k a1_0 a1_1 a0_0 a0_1 a2_0 a2_1).bind fun t187 => (if t187 = 0 then ((cobwebref04_between.f a0_0 a1_0 a2_0).bind fun t188 => (if t188 = true then ((cobwebref04_between.f a0_1 a1_1 a2_1).bind fun t189 => (some t189)) else (some false))) else (some false))) else (some false))) else (some false))) else (some false))) = some r := h
  clear h
  replace H := Option.bind_eq_some_iff.mp H
  obtain ⟨t184, A40, H⟩ := H
  replace H : (if t184 = true then ((cobwebref04_Right.f a1_0 a1_1).bind fun t185 => (if t185 = true then ((cobwebref04_Right.f a2_0 a2_1).bind fun t186 => (if t186 = true then ((cobwebref04_Cross.f k a1_0 a1_1 a0_0 a0_1 a2_0 a2_1).bind fun t187 => (if t187 = 0 then ((cobwebref04_between.f a0_0 a1_0 a2_0).bind fun t188 => (if t188 = true then ((cobwebref04_between.f a0_1 a1_1 a2_1).bind fun t189 => (some t189)) else (some false))) else (some false))) else (some false))) else (some false))) else (some false)) = some r := H
  have A4 := Aside0.mk A40
  clear A40
  by_cases c5 : t184 = true
  · subst c5
    have H1 : ((cobwebref04_Right.f a1_0 a1_1).bind fun t185 => (if t185 = true then ((cobwebref04_Right.f a2_0 a2_1).bind fun t186 => (if t186 = true then ((cobwebref04_Cross.f k a1_0 a1_1 a0_0 a0_1 a2_0 a2_1).bind fun t187 => (if t187 = 0 then ((cobwebref04_between.f a0_0 a1_0 a2_0).bind fun t188 => (if t188 = true then ((cobwebref04_between.f a0_1 a1_1 a2_1).bind fun t189 => (some t189)) else (some false))) else (some false))) else (some false))) else (some false))) = some r := by rw [if_pos rfl] at H; exact H
    clear H
    have H := H1
    clear H1
    replace H := Option.bind_eq_some_iff.mp H
    obtain ⟨t185, A60, H⟩ := H
    replace H : (if t185 = true then ((cobwebref04_Right.f a2_0 a2_1).bind fun t186 => (if t186 = true then ((cobwebref04_Cross.f k a1_0 a1_1 a0_0 a0_1 a2_0 a2_1).bind fun t187 => (if t187 = 0 then ((cobwebref04_between.f a0_0 a1_0 a2_0).bind fun t188 => (if t188 = true then ((cobwebref04_between.f a0_1 a1_1 a2_1).bind fun t189 => (some t189)) else (some false))) else (some false))) else (some false))) else (some false)) = some r := H
    have A6 := Aside0.mk A60
    clear A60
    by_cases c7 : t185 = true
    · subst c7
      have H1 : ((cobwebref04_Right.f a2_0 a2_1).bind fun t186 => (if t186 = true then ((cobwebref04_Cross.f k a1_0 a1_1 a0_0 a0_1 a2_0 a2_1).bind fun t187 => (if t187 = 0 then ((cobwebref04_between.f a0_0 a1_0 a2_0).bind fun t188 => (if t188 = true then ((cobwebref04_between.f a0_1 a1_1 a2_1).bind fun t189 => (some t189)) else (some false))) else (some false))) else (some false))) = some r := by rw [if_pos rfl] at H; exact H
      clear H
      have H := H1
      clear H1
      replace H := Option.bind_eq_some_iff.mp H
      obtain ⟨t186, A80, H⟩ := H
      replace H : (if t186 = true then ((cobwebref04_Cross.f k a1_0 a1_1 a0_0 a0_1 a2_0 a2_1).bind fun t187 => (if t187 = 0 then ((cobwebref04_between.f a0_0 a1_0 a2_0).bind fun t188 => (if t188 = true then ((cobwebref04_between.f a0_1 a1_1 a2_1).bind fun t189 => (some t189)) else (some false))) else (some false))) else (some false)) = some r := H
      have A8 := Aside0.mk A80
      clear A80
      by_cases c9 : t186 = true
      · subst c9
        have H1 : ((cobwebref04_Cross.f k a1_0 a1_1 a0_0 a0_1 a2_0 a2_1).bind fun t187 => (if t187 = 0 then ((cobwebref04_between.f a0_0 a1_0 a2_0).bind fun t188 => (if t188 = true then ((cobwebref04_between.f a0_1 a1_1 a2_1).bind fun t189 => (some t189)) else (some false))) else (some false))) = some r := by rw [if_pos rfl] at H; exact H
        clear H
        have H := H1
        clear H1
        replace H := Option.bind_eq_some_iff.mp H
        obtain ⟨t187, A100, H⟩ := H
        replace H : (if t187 = 0 then ((cobwebref04_between.f a0_0 a1_0 a2_0).bind fun t188 => (if t188 = true then ((cobwebref04_between.f a0_1 a1_1 a2_1).bind fun t189 => (some t189)) else (some false))) else (some false)) = some r := H
        have A10 := Aside0.mk A100
        clear A100
        by_cases c11 : t187 = 0
        · rw [if_pos c11] at H
          have c11b0 : (t187 == 0) = true := beq_iff_eq.mpr c11
          have c11b1 : (t187 != 0) = false := bne_eq_false_iff_eq.mpr c11
          clear c11
          replace H := Option.bind_eq_some_iff.mp H
          obtain ⟨t188, A120, H⟩ := H
          replace H : (if t188 = true then ((cobwebref04_between.f a0_1 a1_1 a2_1).bind fun t189 => (some t189)) else (some false)) = some r := H
          have A12 := Aside0.mk A120
          clear A120
          by_cases c13 : t188 = true
          · subst c13
            have H1 : ((cobwebref04_between.f a0_1 a1_1 a2_1).bind fun t189 => (some t189)) = some r := by rw [if_pos rfl] at H; exact H
            clear H
            have H := H1
            clear H1
            replace H := Option.bind_eq_some_iff.mp H
            obtain ⟨t189, A140, H⟩ := H
            replace H : (some t189) = some r := H
            have A14 := Aside0.mk A140
            clear A140
            obtain rfl := Option.some.inj H
            go_enter Try.func27, Try.ntmps27
            go_wp2_with (first | ((with_reducible refine gate_dst (N := 3) rfl ?_); refine box_event ?hg (N := 3) ?hd (cs := #[.int .i64 a0_0, .int .i64 a0_1]) (t := 23) ?hr ?_; (case hd => rfl); (case hg => rfl); (case hr => first | (go_simp; done) | (go_simp; rfl)); intro gb181 hg w15 hbox hb; have n0_ := Aside0.mk (below_step (by repeat (first | (with_reducible first | exact HB.out | apply below_alloc | apply pw_below_drewN | apply below_drew1) | exact HB.out)) hb); have n1_ := Aside0.mk (hbox); have n2_ := Aside0.mk ((by rw [hg]; exact (below_size (by repeat (first | (with_reducible first | exact HB.out | apply below_alloc | apply pw_below_drewN | apply below_drew1) | exact HB.out))) : w.heap.size ≤ gb181)); have n3_ := Aside0.mk ((by rw [hg]; exact (below_size (by repeat (first | (with_reducible first | exact HB.out | apply below_alloc | apply pw_below_drewN | apply below_drew1) | exact HB.out))) : w.heap.size ≤ gb181)); clear HB; have HB := n0_; have BK181 := n1_; have GW181 := n2_; have GE181 := n3_; clear n0_ n1_ n2_ n3_; clear hb hbox hg) | ((with_reducible refine gate_dst (N := 4) rfl ?_); refine box_event ?hg (N := 4) ?hd (cs := #[.int .i64 a1_0, .int .i64 a1_1]) (t := 23) ?hr ?_; (case hd => rfl); (case hg => rfl); (case hr => first | (go_simp; done) | (go_simp; rfl)); intro gb182 hg w16 hbox hb; have n0_ := Aside0.mk (blk_below (g := gb181) (o := .cells #[.int .i64 a0_0, .int .i64 a0_1] 23 (0, 0)) (by (with_reducible repeat (first | refine blk_drewN ?_ _ | refine blk_drew ?_ | refine blk_alloc ?_ _)); exact BK181.out) hb); have n1_ := Aside0.mk (below_step (by repeat (first | (with_reducible first | exact HB.out | apply below_alloc | apply pw_below_drewN | apply below_drew1 | refine below_set ?_ GE181.out) | exact HB.out)) hb); have n2_ := Aside0.mk (hbox); have n3_ := Aside0.mk ((by rw [hg]; exact (below_size (by repeat (first | (with_reducible first | exact HB.out | apply below_alloc | apply pw_below_drewN | apply below_drew1 | refine below_set ?_ GE181.out) | exact HB.out))) : w.heap.size ≤ gb182)); have n4_ := Aside0.mk ((by rw [hg]; exact (below_size (by repeat (first | (with_reducible first | exact HB.out | apply below_alloc | apply pw_below_drewN | apply below_drew1 | refine below_set ?_ GE181.out) | exact HB.out))) : w.heap.size ≤ gb182)); have n5_ := Aside0.mk ((by rw [hg]; exact Nat.ne_of_lt (blk_lt (g := gb181) (o := .cells #[.int .i64 a0_0, .int .i64 a0_1] 23 (0, 0)) (by (with_reducible repeat (first | refine blk_drewN ?_ _ | refine blk_drew ?_ | refine blk_alloc ?_ _)); exact BK181.out)) : gb181 ≠ gb182)); have n6_ := Aside0.mk ((by rw [hg]; exact Nat.ne_of_gt (blk_lt (g := gb181) (o := .cells #[.int .i64 a0_0, .int .i64 a0_1] 23 (0, 0)) (by (with_reducible repeat (first | refine blk_drewN ?_ _ | refine blk_drew ?_ | refine blk_alloc ?_ _)); exact BK181.out)) : gb182 ≠ gb181)); clear BK181; clear HB; have BK181 := n0_; have HB := n1_; have BK182 := n2_; have GW182 := n3_; have GE182 := n4_; have NB181_182 := n5_; have NB182_181 := n6_; clear n0_ n1_ n2_ n3_ n4_ n5_ n6_; clear hb hbox hg) | ((with_reducible refine gate_dst (N := 5) rfl ?_); refine box_event ?hg (N := 5) ?hd (cs := #[.int .i64 a2_0, .int .i64 a2_1]) (t := 23) ?hr ?_; (case hd => rfl); (case hg => rfl); (case hr => first | (go_simp; done) | (go_simp; rfl)); intro gb183 hg w17 hbox hb; have n0_ := Aside0.mk (blk_below (g := gb181) (o := .cells #[.int .i64 a0_0, .int .i64 a0_1] 23 (0, 0)) (by (with_reducible repeat (first | refine blk_drewN ?_ _ | refine blk_drew ?_ | refine blk_alloc ?_ _)); exact BK181.out) hb); have n1_ := Aside0.mk (blk_below (g := gb182) (o := .cells #[.int .i64 a1_0, .int .i64 a1_1] 23 (0, 0)) (by (with_reducible repeat (first | refine blk_drewN ?_ _ | refine blk_drew ?_ | refine blk_alloc ?_ _)); exact BK182.out) hb); have n2_ := Aside0.mk (below_step (by repeat (first | (with_reducible first | exact HB.out | apply below_alloc | apply pw_below_drewN | apply below_drew1 | refine below_set ?_ GE181.out | refine below_set ?_ GE182.out) | exact HB.out)) hb); have n3_ := Aside0.mk (hbox); have n4_ := Aside0.mk ((by rw [hg]; exact (below_size (by repeat (first | (with_reducible first | exact HB.out | apply below_alloc | apply pw_below_drewN | apply below_drew1 | refine below_set ?_ GE181.out | refine below_set ?_ GE182.out) | exact HB.out))) : w.heap.size ≤ gb183)); have n5_ := Aside0.mk ((by rw [hg]; exact (below_size (by repeat (first | (with_reducible first | exact HB.out | apply below_alloc | apply pw_below_drewN | apply below_drew1 | refine below_set ?_ GE181.out | refine below_set ?_ GE182.out) | exact HB.out))) : w.heap.size ≤ gb183)); have n6_ := Aside0.mk ((by rw [hg]; exact Nat.ne_of_lt (blk_lt (g := gb181) (o := .cells #[.int .i64 a0_0, .int .i64 a0_1] 23 (0, 0)) (by (with_reducible repeat (first | refine blk_drewN ?_ _ | refine blk_drew ?_ | refine blk_alloc ?_ _)); exact BK181.out)) : gb181 ≠ gb183)); have n7_ := Aside0.mk ((by rw [hg]; exact Nat.ne_of_gt (blk_lt (g := gb181) (o := .cells #[.int .i64 a0_0, .int .i64 a0_1] 23 (0, 0)) (by (with_reducible repeat (first | refine blk_drewN ?_ _ | refine blk_drew ?_ | refine blk_alloc ?_ _)); exact BK181.out)) : gb183 ≠ gb181)); have n8_ := Aside0.mk ((by rw [hg]; exact Nat.ne_of_lt (blk_lt (g := gb182) (o := .cells #[.int .i64 a1_0, .int .i64 a1_1] 23 (0, 0)) (by (with_reducible repeat (first | refine blk_drewN ?_ _ | refine blk_drew ?_ | refine blk_alloc ?_ _)); exact BK182.out)) : gb182 ≠ gb183)); have n9_ := Aside0.mk ((by rw [hg]; exact Nat.ne_of_gt (blk_lt (g := gb182) (o := .cells #[.int .i64 a1_0, .int .i64 a1_1] 23 (0, 0)) (by (with_reducible repeat (first | refine blk_drewN ?_ _ | refine blk_drew ?_ | refine blk_alloc ?_ _)); exact BK182.out)) : gb183 ≠ gb182)); clear BK181; clear BK182; clear HB; have BK181 := n0_; have BK182 := n1_; have HB := n2_; have BK183 := n3_; have GW183 := n4_; have GE183 := n5_; have NB181_183 := n6_; have NB183_181 := n7_; have NB182_183 := n8_; have NB183_182 := n9_; clear n0_ n1_ n2_ n3_ n4_ n5_ n6_ n7_ n8_ n9_; clear hb hbox hg; have hnb18 := NB181_182.out; have hnc18 := NB182_181.out; have hnb19 := NB181_183.out; have hnc19 := NB183_181.out; have hcz20_0 : w17.cell? ⟨gb181, 0, none⟩ = some (.int .i64 a0_0) := (blk_cell BK181.out 0).trans rfl; have hcz20_1 : w17.cell? ⟨gb181, 1, none⟩ = some (.int .i64 a0_1) := (blk_cell BK181.out 1).trans rfl; have hfz20_0 := blk_frozen BK181.out 0; have hfz20_1 := blk_frozen BK181.out 1) | ((with_reducible refine gate_callee (f := 21) rfl ?_); refine goesL_ (some 8) rfl rfl Try.func21 (by kernel_rfl) rfl #[.agg #[.int .i64 a0_0, .int .i64 a0_1]] rfl (by (try simp only [List.map_toArray, List.map_cons, List.map_nil]); first | done | rfl | (simp only [List.length_drop, List.length_take]; rfl)) ?_; (with_reducible refine (cobwebref04_Right.calls a0_0 a0_1 true _ A4.out).mono ?_); rintro e w21 ⟨rfl, hb⟩; refine ⟨_, rfl, ?_⟩; have n0_ := Aside0.mk (blk_below (g := gb181) (o := .cells #[.int .i64 a0_0, .int .i64 a0_1] 23 (0, 0)) (by (with_reducible repeat (first | refine blk_drewN ?_ _ | refine blk_drew ?_ | refine blk_alloc ?_ _)); exact BK181.out) hb); have n1_ := Aside0.mk (blk_below (g := gb182) (o := .cells #[.int .i64 a1_0, .int .i64 a1_1] 23 (0, 0)) (by (with_reducible repeat (first | refine blk_drewN ?_ _ | refine blk_drew ?_ | refine blk_alloc ?_ _)); exact BK182.out) hb); have n2_ := Aside0.mk (blk_below (g := gb183) (o := .cells #[.int .i64 a2_0, .int .i64 a2_1] 23 (0, 0)) (by (with_reducible repeat (first | refine blk_drewN ?_ _ | refine blk_drew ?_ | refine blk_alloc ?_ _)); exact BK183.out) hb); have n3_ := Aside0.mk (below_step (by repeat (first | (with_reducible first | exact HB.out | apply below_alloc | apply pw_below_drewN | apply below_drew1 | refine below_set ?_ GE181.out | refine below_set ?_ GE182.out | refine below_set ?_ GE183.out) | exact HB.out)) hb); clear BK181; clear BK182; clear BK183; clear HB; have BK181 := n0_; have BK182 := n1_; have BK183 := n2_; have HB := n3_; clear n0_ n1_ n2_ n3_; (try clear hb); (try clear hb2); (try clear hk); (try clear hi); have hnb22 := NB182_183.out; have hnc22 := NB183_182.out; have hcz23_0 : w21.cell? ⟨gb182, 0, none⟩ = some (.int .i64 a1_0) := (blk_cell BK182.out 0).trans rfl; have hcz23_1 : w21.cell? ⟨gb182, 1, none⟩ = some (.int .i64 a1_1) := (blk_cell BK182.out 1).trans rfl; have hfz23_0 := blk_frozen BK182.out 0; have hfz23_1 := blk_frozen BK182.out 1) | (go_at_call 21; (with_reducible refine (cobwebref04_Right.calls a1_0 a1_1 true _ A6.out).mono ?_); rintro e w24 ⟨rfl, hb⟩; have n0_ := Aside0.mk (blk_below (g := gb181) (o := .cells #[.int .i64 a0_0, .int .i64 a0_1] 23 (0, 0)) (by (with_reducible repeat (first | refine blk_drewN ?_ _ | refine blk_drew ?_ | refine blk_alloc ?_ _)); exact BK181.out) hb); have n1_ := Aside0.mk (blk_below (g := gb182) (o := .cells #[.int .i64 a1_0, .int .i64 a1_1] 23 (0, 0)) (by (with_reducible repeat (first | refine blk_drewN ?_ _ | refine blk_drew ?_ | refine blk_alloc ?_ _)); exact BK182.out) hb); have n2_ := Aside0.mk (blk_below (g := gb183) (o := .cells #[.int .i64 a2_0, .int .i64 a2_1] 23 (0, 0)) (by (with_reducible repeat (first | refine blk_drewN ?_ _ | refine blk_drew ?_ | refine blk_alloc ?_ _)); exact BK183.out) hb); have n3_ := Aside0.mk (below_step (by repeat (first | (with_reducible first | exact HB.out | apply below_alloc | apply pw_below_drewN | apply below_drew1 | refine below_set ?_ GE181.out | refine below_set ?_ GE182.out | refine below_set ?_ GE183.out) | exact HB.out)) hb); clear BK181; clear BK182; clear BK183; clear HB; have BK181 := n0_; have BK182 := n1_; have BK183 := n2_; have HB := n3_; clear n0_ n1_ n2_ n3_; (try clear hb); (try clear hb2); (try clear hk); (try clear hi); have hcz25_0 : w24.cell? ⟨gb183, 0, none⟩ = some (.int .i64 a2_0) := (blk_cell BK183.out 0).trans rfl; have hcz25_1 : w24.cell? ⟨gb183, 1, none⟩ = some (.int .i64 a2_1) := (blk_cell BK183.out 1).trans rfl; have hfz25_0 := blk_frozen BK183.out 0; have hfz25_1 := blk_frozen BK183.out 1) | (go_at_call 21; (with_reducible refine (cobwebref04_Right.calls a2_0 a2_1 true _ A8.out).mono ?_); rintro e w26 ⟨rfl, hb⟩; have n0_ := Aside0.mk (blk_below (g := gb181) (o := .cells #[.int .i64 a0_0, .int .i64 a0_1] 23 (0, 0)) (by (with_reducible repeat (first | refine blk_drewN ?_ _ | refine blk_drew ?_ | refine blk_alloc ?_ _)); exact BK181.out) hb); have n1_ := Aside0.mk (blk_below (g := gb182) (o := .cells #[.int .i64 a1_0, .int .i64 a1_1] 23 (0, 0)) (by (with_reducible repeat (first | refine blk_drewN ?_ _ | refine blk_drew ?_ | refine blk_alloc ?_ _)); exact BK182.out) hb); have n2_ := Aside0.mk (blk_below (g := gb183) (o := .cells #[.int .i64 a2_0, .int .i64 a2_1] 23 (0, 0)) (by (with_reducible repeat (first | refine blk_drewN ?_ _ | refine blk_drew ?_ | refine blk_alloc ?_ _)); exact BK183.out) hb); have n3_ := Aside0.mk (below_step (by repeat (first | (with_reducible first | exact HB.out | apply below_alloc | apply pw_below_drewN | apply below_drew1 | refine below_set ?_ GE181.out | refine below_set ?_ GE182.out | refine below_set ?_ GE183.out) | exact HB.out)) hb); clear BK181; clear BK182; clear BK183; clear HB; have BK181 := n0_; have BK182 := n1_; have BK183 := n2_; have HB := n3_; clear n0_ n1_ n2_ n3_; (try clear hb); (try clear hb2); (try clear hk); (try clear hi); have hcz27_0 : w26.cell? ⟨gb182, 0, none⟩ = some (.int .i64 a1_0) := (blk_cell BK182.out 0).trans rfl; have hcz27_1 : w26.cell? ⟨gb182, 1, none⟩ = some (.int .i64 a1_1) := (blk_cell BK182.out 1).trans rfl; have hfz27_0 := blk_frozen BK182.out 0; have hfz27_1 := blk_frozen BK182.out 1; have hcz28_0 : w26.cell? ⟨gb181, 0, none⟩ = some (.int .i64 a0_0) := (blk_cell BK181.out 0).trans rfl; have hcz28_1 : w26.cell? ⟨gb181, 1, none⟩ = some (.int .i64 a0_1) := (blk_cell BK181.out 1).trans rfl; have hfz28_0 := blk_frozen BK181.out 0; have hfz28_1 := blk_frozen BK181.out 1; have hcz29_0 : w26.cell? ⟨gb183, 0, none⟩ = some (.int .i64 a2_0) := (blk_cell BK183.out 0).trans rfl; have hcz29_1 : w26.cell? ⟨gb183, 1, none⟩ = some (.int .i64 a2_1) := (blk_cell BK183.out 1).trans rfl; have hfz29_0 := blk_frozen BK183.out 0; have hfz29_1 := blk_frozen BK183.out 1) | (go_at_call 22; (with_reducible refine (cobwebref04_Cross.calls k a1_0 a1_1 a0_0 a0_1 a2_0 a2_1 t187 _ A10.out).mono ?_); rintro e w30 ⟨rfl, hb⟩; have n0_ := Aside0.mk (blk_below (g := gb181) (o := .cells #[.int .i64 a0_0, .int .i64 a0_1] 23 (0, 0)) (by (with_reducible repeat (first | refine blk_drewN ?_ _ | refine blk_drew ?_ | refine blk_alloc ?_ _)); exact BK181.out) hb); have n1_ := Aside0.mk (blk_below (g := gb182) (o := .cells #[.int .i64 a1_0, .int .i64 a1_1] 23 (0, 0)) (by (with_reducible repeat (first | refine blk_drewN ?_ _ | refine blk_drew ?_ | refine blk_alloc ?_ _)); exact BK182.out) hb); have n2_ := Aside0.mk (blk_below (g := gb183) (o := .cells #[.int .i64 a2_0, .int .i64 a2_1] 23 (0, 0)) (by (with_reducible repeat (first | refine blk_drewN ?_ _ | refine blk_drew ?_ | refine blk_alloc ?_ _)); exact BK183.out) hb); have n3_ := Aside0.mk (below_step (by repeat (first | (with_reducible first | exact HB.out | apply below_alloc | apply pw_below_drewN | apply below_drew1 | refine below_set ?_ GE181.out | refine below_set ?_ GE182.out | refine below_set ?_ GE183.out) | exact HB.out)) hb); clear BK181; clear BK182; clear BK183; clear HB; have BK181 := n0_; have BK182 := n1_; have BK183 := n2_; have HB := n3_; clear n0_ n1_ n2_ n3_; (try clear hb); (try clear hb2); (try clear hk); (try clear hi); have hcz31_0 : w30.cell? ⟨gb181, 0, none⟩ = some (.int .i64 a0_0) := (blk_cell BK181.out 0).trans rfl; have hcz31_1 : w30.cell? ⟨gb181, 1, none⟩ = some (.int .i64 a0_1) := (blk_cell BK181.out 1).trans rfl; have hfz31_0 := blk_frozen BK181.out 0; have hfz31_1 := blk_frozen BK181.out 1; have hcz32_0 : w30.cell? ⟨gb182, 0, none⟩ = some (.int .i64 a1_0) := (blk_cell BK182.out 0).trans rfl; have hcz32_1 : w30.cell? ⟨gb182, 1, none⟩ = some (.int .i64 a1_1) := (blk_cell BK182.out 1).trans rfl; have hfz32_0 := blk_frozen BK182.out 0; have hfz32_1 := blk_frozen BK182.out 1; have hcz33_0 : w30.cell? ⟨gb183, 0, none⟩ = some (.int .i64 a2_0) := (blk_cell BK183.out 0).trans rfl; have hcz33_1 : w30.cell? ⟨gb183, 1, none⟩ = some (.int .i64 a2_1) := (blk_cell BK183.out 1).trans rfl; have hfz33_0 := blk_frozen BK183.out 0; have hfz33_1 := blk_frozen BK183.out 1) | (go_at_call 55; (with_reducible refine (cobwebref04_between.calls a0_0 a1_0 a2_0 true _ A12.out).mono ?_); rintro e w' ⟨rfl, ⟨nd, rfl⟩⟩) | (go_at_call 55; (with_reducible refine (cobwebref04_between.calls a0_1 a1_1 a2_1 t189 _ A14.out).mono ?_); rintro e w' ⟨rfl, ⟨nd, rfl⟩⟩))
            go_ret
            exact ⟨by first | rfl | (simp [errW_none, errW_some] <;> rfl) | (simp [*, errW_none, errW_some] <;> rfl), by repeat (first | (with_reducible first | exact HB.out | apply below_alloc | apply pw_below_drewN | apply below_drew1 | refine below_set ?_ GE181.out | refine below_set ?_ GE182.out | refine below_set ?_ GE183.out) | exact HB.out)⟩
          · replace c13 := Bool.eq_false_iff.mpr c13
            subst c13
            have H1 : (some false) = some r := by rw [if_neg (show ¬ (false = true) by decide)] at H; exact H
            clear H
            have H := H1
            clear H1
            obtain rfl := Option.some.inj H
            go_enter Try.func27, Try.ntmps27
            go_wp2_with (first | ((with_reducible refine gate_dst (N := 3) rfl ?_); refine box_event ?hg (N := 3) ?hd (cs := #[.int .i64 a0_0, .int .i64 a0_1]) (t := 23) ?hr ?_; (case hd => rfl); (case hg => rfl); (case hr => first | (go_simp; done) | (go_simp; rfl)); intro gb181 hg w34 hbox hb; have n0_ := Aside0.mk (below_step (by repeat (first | (with_reducible first | exact HB.out | apply below_alloc | apply pw_below_drewN | apply below_drew1) | exact HB.out)) hb); have n1_ := Aside0.mk (hbox); have n2_ := Aside0.mk ((by rw [hg]; exact (below_size (by repeat (first | (with_reducible first | exact HB.out | apply below_alloc | apply pw_below_drewN | apply below_drew1) | exact HB.out))) : w.heap.size ≤ gb181)); have n3_ := Aside0.mk ((by rw [hg]; exact (below_size (by repeat (first | (with_reducible first | exact HB.out | apply below_alloc | apply pw_below_drewN | apply below_drew1) | exact HB.out))) : w.heap.size ≤ gb181)); clear HB; have HB := n0_; have BK181 := n1_; have GW181 := n2_; have GE181 := n3_; clear n0_ n1_ n2_ n3_; clear hb hbox hg) | ((with_reducible refine gate_dst (N := 4) rfl ?_); refine box_event ?hg (N := 4) ?hd (cs := #[.int .i64 a1_0, .int .i64 a1_1]) (t := 23) ?hr ?_; (case hd => rfl); (case hg => rfl); (case hr => first | (go_simp; done) | (go_simp; rfl)); intro gb182 hg w35 hbox hb; have n0_ := Aside0.mk (blk_below (g := gb181) (o := .cells #[.int .i64 a0_0, .int .i64 a0_1] 23 (0, 0)) (by (with_reducible repeat (first | refine blk_drewN ?_ _ | refine blk_drew ?_ | refine blk_alloc ?_ _)); exact BK181.out) hb); have n1_ := Aside0.mk (below_step (by repeat (first | (with_reducible first | exact HB.out | apply below_alloc | apply pw_below_drewN | apply below_drew1 | refine below_set ?_ GE181.out) | exact HB.out)) hb); have n2_ := Aside0.mk (hbox); have n3_ := Aside0.mk ((by rw [hg]; exact (below_size (by repeat (first | (with_reducible first | exact HB.out | apply below_alloc | apply pw_below_drewN | apply below_drew1 | refine below_set ?_ GE181.out) | exact HB.out))) : w.heap.size ≤ gb182)); have n4_ := Aside0.mk ((by rw [hg]; exact (below_size (by repeat (first | (with_reducible first | exact HB.out | apply below_alloc | apply pw_below_drewN | apply below_drew1 | refine below_set ?_ GE181.out) | exact HB.out))) : w.heap.size ≤ gb182)); have n5_ := Aside0.mk ((by rw [hg]; exact Nat.ne_of_lt (blk_lt (g := gb181) (o := .cells #[.int .i64 a0_0, .int .i64 a0_1] 23 (0, 0)) (by (with_reducible repeat (first | refine blk_drewN ?_ _ | refine blk_drew ?_ | refine blk_alloc ?_ _)); exact BK181.out)) : gb181 ≠ gb182)); have n6_ := Aside0.mk ((by rw [hg]; exact Nat.ne_of_gt (blk_lt (g := gb181) (o := .cells #[.int .i64 a0_0, .int .i64 a0_1] 23 (0, 0)) (by (with_reducible repeat (first | refine blk_drewN ?_ _ | refine blk_drew ?_ | refine blk_alloc ?_ _)); exact BK181.out)) : gb182 ≠ gb181)); clear BK181; clear HB; have BK181 := n0_; have HB := n1_; have BK182 := n2_; have GW182 := n3_; have GE182 := n4_; have NB181_182 := n5_; have NB182_181 := n6_; clear n0_ n1_ n2_ n3_ n4_ n5_ n6_; clear hb hbox hg) | ((with_reducible refine gate_dst (N := 5) rfl ?_); refine box_event ?hg (N := 5) ?hd (cs := #[.int .i64 a2_0, .int .i64 a2_1]) (t := 23) ?hr ?_; (case hd => rfl); (case hg => rfl); (case hr => first | (go_simp; done) | (go_simp; rfl)); intro gb183 hg w36 hbox hb; have n0_ := Aside0.mk (blk_below (g := gb181) (o := .cells #[.int .i64 a0_0, .int .i64 a0_1] 23 (0, 0)) (by (with_reducible repeat (first | refine blk_drewN ?_ _ | refine blk_drew ?_ | refine blk_alloc ?_ _)); exact BK181.out) hb); have n1_ := Aside0.mk (blk_below (g := gb182) (o := .cells #[.int .i64 a1_0, .int .i64 a1_1] 23 (0, 0)) (by (with_reducible repeat (first | refine blk_drewN ?_ _ | refine blk_drew ?_ | refine blk_alloc ?_ _)); exact BK182.out) hb); have n2_ := Aside0.mk (below_step (by repeat (first | (with_reducible first | exact HB.out | apply below_alloc | apply pw_below_drewN | apply below_drew1 | refine below_set ?_ GE181.out | refine below_set ?_ GE182.out) | exact HB.out)) hb); have n3_ := Aside0.mk (hbox); have n4_ := Aside0.mk ((by rw [hg]; exact (below_size (by repeat (first | (with_reducible first | exact HB.out | apply below_alloc | apply pw_below_drewN | apply below_drew1 | refine below_set ?_ GE181.out | refine below_set ?_ GE182.out) | exact HB.out))) : w.heap.size ≤ gb183)); have n5_ := Aside0.mk ((by rw [hg]; exact (below_size (by repeat (first | (with_reducible first | exact HB.out | apply below_alloc | apply pw_below_drewN | apply below_drew1 | refine below_set ?_ GE181.out | refine below_set ?_ GE182.out) | exact HB.out))) : w.heap.size ≤ gb183)); have n6_ := Aside0.mk ((by rw [hg]; exact Nat.ne_of_lt (blk_lt (g := gb181) (o := .cells #[.int .i64 a0_0, .int .i64 a0_1] 23 (0, 0)) (by (with_reducible repeat (first | refine blk_drewN ?_ _ | refine blk_drew ?_ | refine blk_alloc ?_ _)); exact BK181.out)) : gb181 ≠ gb183)); have n7_ := Aside0.mk ((by rw [hg]; exact Nat.ne_of_gt (blk_lt (g := gb181) (o := .cells #[.int .i64 a0_0, .int .i64 a0_1] 23 (0, 0)) (by (with_reducible repeat (first | refine blk_drewN ?_ _ | refine blk_drew ?_ | refine blk_alloc ?_ _)); exact BK181.out)) : gb183 ≠ gb181)); have n8_ := Aside0.mk ((by rw [hg]; exact Nat.ne_of_lt (blk_lt (g := gb182) (o := .cells #[.int .i64 a1_0, .int .i64 a1_1] 23 (0, 0)) (by (with_reducible repeat (first | refine blk_drewN ?_ _ | refine blk_drew ?_ | refine blk_alloc ?_ _)); exact BK182.out)) : gb182 ≠ gb183)); have n9_ := Aside0.mk ((by rw [hg]; exact Nat.ne_of_gt (blk_lt (g := gb182) (o := .cells #[.int .i64 a1_0, .int .i64 a1_1] 23 (0, 0)) (by (with_reducible repeat (first | refine blk_drewN ?_ _ | refine blk_drew ?_ | refine blk_alloc ?_ _)); exact BK182.out)) : gb183 ≠ gb182)); clear BK181; clear BK182; clear HB; have BK181 := n0_; have BK182 := n1_; have HB := n2_; have BK183 := n3_; have GW183 := n4_; have GE183 := n5_; have NB181_183 := n6_; have NB183_181 := n7_; have NB182_183 := n8_; have NB183_182 := n9_; clear n0_ n1_ n2_ n3_ n4_ n5_ n6_ n7_ n8_ n9_; clear hb hbox hg; have hnb37 := NB181_182.out; have hnc37 := NB182_181.out; have hnb38 := NB181_183.out; have hnc38 := NB183_181.out; have hcz39_0 : w36.cell? ⟨gb181, 0, none⟩ = some (.int .i64 a0_0) := (blk_cell BK181.out 0).trans rfl; have hcz39_1 : w36.cell? ⟨gb181, 1, none⟩ = some (.int .i64 a0_1) := (blk_cell BK181.out 1).trans rfl; have hfz39_0 := blk_frozen BK181.out 0; have hfz39_1 := blk_frozen BK181.out 1) | ((with_reducible refine gate_callee (f := 21) rfl ?_); refine goesL_ (some 8) rfl rfl Try.func21 (by kernel_rfl) rfl #[.agg #[.int .i64 a0_0, .int .i64 a0_1]] rfl (by (try simp only [List.map_toArray, List.map_cons, List.map_nil]); first | done | rfl | (simp only [List.length_drop, List.length_take]; rfl)) ?_; (with_reducible refine (cobwebref04_Right.calls a0_0 a0_1 true _ A4.out).mono ?_); rintro e w40 ⟨rfl, hb⟩; refine ⟨_, rfl, ?_⟩; have n0_ := Aside0.mk (blk_below (g := gb181) (o := .cells #[.int .i64 a0_0, .int .i64 a0_1] 23 (0, 0)) (by (with_reducible repeat (first | refine blk_drewN ?_ _ | refine blk_drew ?_ | refine blk_alloc ?_ _)); exact BK181.out) hb); have n1_ := Aside0.mk (blk_below (g := gb182) (o := .cells #[.int .i64 a1_0, .int .i64 a1_1] 23 (0, 0)) (by (with_reducible repeat (first | refine blk_drewN ?_ _ | refine blk_drew ?_ | refine blk_alloc ?_ _)); exact BK182.out) hb); have n2_ := Aside0.mk (blk_below (g := gb183) (o := .cells #[.int .i64 a2_0, .int .i64 a2_1] 23 (0, 0)) (by (with_reducible repeat (first | refine blk_drewN ?_ _ | refine blk_drew ?_ | refine blk_alloc ?_ _)); exact BK183.out) hb); have n3_ := Aside0.mk (below_step (by repeat (first | (with_reducible first | exact HB.out | apply below_alloc | apply pw_below_drewN | apply below_drew1 | refine below_set ?_ GE181.out | refine below_set ?_ GE182.out | refine below_set ?_ GE183.out) | exact HB.out)) hb); clear BK181; clear BK182; clear BK183; clear HB; have BK181 := n0_; have BK182 := n1_; have BK183 := n2_; have HB := n3_; clear n0_ n1_ n2_ n3_; (try clear hb); (try clear hb2); (try clear hk); (try clear hi); have hnb41 := NB182_183.out; have hnc41 := NB183_182.out; have hcz42_0 : w40.cell? ⟨gb182, 0, none⟩ = some (.int .i64 a1_0) := (blk_cell BK182.out 0).trans rfl; have hcz42_1 : w40.cell? ⟨gb182, 1, none⟩ = some (.int .i64 a1_1) := (blk_cell BK182.out 1).trans rfl; have hfz42_0 := blk_frozen BK182.out 0; have hfz42_1 := blk_frozen BK182.out 1) | (go_at_call 21; (with_reducible refine (cobwebref04_Right.calls a1_0 a1_1 true _ A6.out).mono ?_); rintro e w43 ⟨rfl, hb⟩; have n0_ := Aside0.mk (blk_below (g := gb181) (o := .cells #[.int .i64 a0_0, .int .i64 a0_1] 23 (0, 0)) (by (with_reducible repeat (first | refine blk_drewN ?_ _ | refine blk_drew ?_ | refine blk_alloc ?_ _)); exact BK181.out) hb); have n1_ := Aside0.mk (blk_below (g := gb182) (o := .cells #[.int .i64 a1_0, .int .i64 a1_1] 23 (0, 0)) (by (with_reducible repeat (first | refine blk_drewN ?_ _ | refine blk_drew ?_ | refine blk_alloc ?_ _)); exact BK182.out) hb); have n2_ := Aside0.mk (blk_below (g := gb183) (o := .cells #[.int .i64 a2_0, .int .i64 a2_1] 23 (0, 0)) (by (with_reducible repeat (first | refine blk_drewN ?_ _ | refine blk_drew ?_ | refine blk_alloc ?_ _)); exact BK183.out) hb); have n3_ := Aside0.mk (below_step (by repeat (first | (with_reducible first | exact HB.out | apply below_alloc | apply pw_below_drewN | apply below_drew1 | refine below_set ?_ GE181.out | refine below_set ?_ GE182.out | refine below_set ?_ GE183.out) | exact HB.out)) hb); clear BK181; clear BK182; clear BK183; clear HB; have BK181 := n0_; have BK182 := n1_; have BK183 := n2_; have HB := n3_; clear n0_ n1_ n2_ n3_; (try clear hb); (try clear hb2); (try clear hk); (try clear hi); have hcz44_0 : w43.cell? ⟨gb183, 0, none⟩ = some (.int .i64 a2_0) := (blk_cell BK183.out 0).trans rfl; have hcz44_1 : w43.cell? ⟨gb183, 1, none⟩ = some (.int .i64 a2_1) := (blk_cell BK183.out 1).trans rfl; have hfz44_0 := blk_frozen BK183.out 0; have hfz44_1 := blk_frozen BK183.out 1) | (go_at_call 21; (with_reducible refine (cobwebref04_Right.calls a2_0 a2_1 true _ A8.out).mono ?_); rintro e w45 ⟨rfl, hb⟩; have n0_ := Aside0.mk (blk_below (g := gb181) (o := .cells #[.int .i64 a0_0, .int .i64 a0_1] 23 (0, 0)) (by (with_reducible repeat (first | refine blk_drewN ?_ _ | refine blk_drew ?_ | refine blk_alloc ?_ _)); exact BK181.out) hb); have n1_ := Aside0.mk (blk_below (g := gb182) (o := .cells #[.int .i64 a1_0, .int .i64 a1_1] 23 (0, 0)) (by (with_reducible repeat (first | refine blk_drewN ?_ _ | refine blk_drew ?_ | refine blk_alloc ?_ _)); exact BK182.out) hb); have n2_ := Aside0.mk (blk_below (g := gb183) (o := .cells #[.int .i64 a2_0, .int .i64 a2_1] 23 (0, 0)) (by (with_reducible repeat (first | refine blk_drewN ?_ _ | refine blk_drew ?_ | refine blk_alloc ?_ _)); exact BK183.out) hb); have n3_ := Aside0.mk (below_step (by repeat (first | (with_reducible first | exact HB.out | apply below_alloc | apply pw_below_drewN | apply below_drew1 | refine below_set ?_ GE181.out | refine below_set ?_ GE182.out | refine below_set ?_ GE183.out) | exact HB.out)) hb); clear BK181; clear BK182; clear BK183; clear HB; have BK181 := n0_; have BK182 := n1_; have BK183 := n2_; have HB := n3_; clear n0_ n1_ n2_ n3_; (try clear hb); (try clear hb2); (try clear hk); (try clear hi); have hcz46_0 : w45.cell? ⟨gb182, 0, none⟩ = some (.int .i64 a1_0) := (blk_cell BK182.out 0).trans rfl; have hcz46_1 : w45.cell? ⟨gb182, 1, none⟩ = some (.int .i64 a1_1) := (blk_cell BK182.out 1).trans rfl; have hfz46_0 := blk_frozen BK182.out 0; have hfz46_1 := blk_frozen BK182.out 1; have hcz47_0 : w45.cell? ⟨gb181, 0, none⟩ = some (.int .i64 a0_0) := (blk_cell BK181.out 0).trans rfl; have hcz47_1 : w45.cell? ⟨gb181, 1, none⟩ = some (.int .i64 a0_1) := (blk_cell BK181.out 1).trans rfl; have hfz47_0 := blk_frozen BK181.out 0; have hfz47_1 := blk_frozen BK181.out 1; have hcz48_0 : w45.cell? ⟨gb183, 0, none⟩ = some (.int .i64 a2_0) := (blk_cell BK183.out 0).trans rfl; have hcz48_1 : w45.cell? ⟨gb183, 1, none⟩ = some (.int .i64 a2_1) := (blk_cell BK183.out 1).trans rfl; have hfz48_0 := blk_frozen BK183.out 0; have hfz48_1 := blk_frozen BK183.out 1) | (go_at_call 22; (with_reducible refine (cobwebref04_Cross.calls k a1_0 a1_1 a0_0 a0_1 a2_0 a2_1 t187 _ A10.out).mono ?_); rintro e w49 ⟨rfl, hb⟩; have n0_ := Aside0.mk (blk_below (g := gb181) (o := .cells #[.int .i64 a0_0, .int .i64 a0_1] 23 (0, 0)) (by (with_reducible repeat (first | refine blk_drewN ?_ _ | refine blk_drew ?_ | refine blk_alloc ?_ _)); exact BK181.out) hb); have n1_ := Aside0.mk (blk_below (g := gb182) (o := .cells #[.int .i64 a1_0, .int .i64 a1_1] 23 (0, 0)) (by (with_reducible repeat (first | refine blk_drewN ?_ _ | refine blk_drew ?_ | refine blk_alloc ?_ _)); exact BK182.out) hb); have n2_ := Aside0.mk (blk_below (g := gb183) (o := .cells #[.int .i64 a2_0, .int .i64 a2_1] 23 (0, 0)) (by (with_reducible repeat (first | refine blk_drewN ?_ _ | refine blk_drew ?_ | refine blk_alloc ?_ _)); exact BK183.out) hb); have n3_ := Aside0.mk (below_step (by repeat (first | (with_reducible first | exact HB.out | apply below_alloc | apply pw_below_drewN | apply below_drew1 | refine below_set ?_ GE181.out | refine below_set ?_ GE182.out | refine below_set ?_ GE183.out) | exact HB.out)) hb); clear BK181; clear BK182; clear BK183; clear HB; have BK181 := n0_; have BK182 := n1_; have BK183 := n2_; have HB := n3_; clear n0_ n1_ n2_ n3_; (try clear hb); (try clear hb2); (try clear hk); (try clear hi); have hcz50_0 : w49.cell? ⟨gb181, 0, none⟩ = some (.int .i64 a0_0) := (blk_cell BK181.out 0).trans rfl; have hcz50_1 : w49.cell? ⟨gb181, 1, none⟩ = some (.int .i64 a0_1) := (blk_cell BK181.out 1).trans rfl; have hfz50_0 := blk_frozen BK181.out 0; have hfz50_1 := blk_frozen BK181.out 1; have hcz51_0 : w49.cell? ⟨gb182, 0, none⟩ = some (.int .i64 a1_0) := (blk_cell BK182.out 0).trans rfl; have hcz51_1 : w49.cell? ⟨gb182, 1, none⟩ = some (.int .i64 a1_1) := (blk_cell BK182.out 1).trans rfl; have hfz51_0 := blk_frozen BK182.out 0; have hfz51_1 := blk_frozen BK182.out 1; have hcz52_0 : w49.cell? ⟨gb183, 0, none⟩ = some (.int .i64 a2_0) := (blk_cell BK183.out 0).trans rfl; have hcz52_1 : w49.cell? ⟨gb183, 1, none⟩ = some (.int .i64 a2_1) := (blk_cell BK183.out 1).trans rfl; have hfz52_0 := blk_frozen BK183.out 0; have hfz52_1 := blk_frozen BK183.out 1) | (go_at_call 55; (with_reducible refine (cobwebref04_between.calls a0_0 a1_0 a2_0 false _ A12.out).mono ?_); rintro e w' ⟨rfl, ⟨nd, rfl⟩⟩))
            go_ret
            exact ⟨by first | rfl | (simp [errW_none, errW_some] <;> rfl) | (simp [*, errW_none, errW_some] <;> rfl), by repeat (first | (with_reducible first | exact HB.out | apply below_alloc | apply pw_below_drewN | apply below_drew1 | refine below_set ?_ GE181.out | refine below_set ?_ GE182.out | refine below_set ?_ GE183.out) | exact HB.out)⟩
        · rw [if_neg c11] at H
          have c11b0 : (t187 == 0) = false := beq_eq_false_iff_ne.mpr c11
          have c11b1 : (t187 != 0) = true := bne_iff_ne.mpr c11
          obtain rfl := Option.some.inj H
          go_enter Try.func27, Try.ntmps27
          go_wp2_with (first | ((with_reducible refine gate_dst (N := 3) rfl ?_); refine box_event ?hg (N := 3) ?hd (cs := #[.int .i64 a0_0, .int .i64 a0_1]) (t := 23) ?hr ?_; (case hd => rfl); (case hg => rfl); (case hr => first | (go_simp; done) | (go_simp; rfl)); intro gb181 hg w53 hbox hb; have n0_ := Aside0.mk (below_step (by repeat (first | (with_reducible first | exact HB.out | apply below_alloc | apply pw_below_drewN | apply below_drew1) | exact HB.out)) hb); have n1_ := Aside0.mk (hbox); have n2_ := Aside0.mk ((by rw [hg]; exact (below_size (by repeat (first | (with_reducible first | exact HB.out | apply below_alloc | apply pw_below_drewN | apply below_drew1) | exact HB.out))) : w.heap.size ≤ gb181)); have n3_ := Aside0.mk ((by rw [hg]; exact (below_size (by repeat (first | (with_reducible first | exact HB.out | apply below_alloc | apply pw_below_drewN | apply below_drew1) | exact HB.out))) : w.heap.size ≤ gb181)); clear HB; have HB := n0_; have BK181 := n1_; have GW181 := n2_; have GE181 := n3_; clear n0_ n1_ n2_ n3_; clear hb hbox hg) | ((with_reducible refine gate_dst (N := 4) rfl ?_); refine box_event ?hg (N := 4) ?hd (cs := #[.int .i64 a1_0, .int .i64 a1_1]) (t := 23) ?hr ?_; (case hd => rfl); (case hg => rfl); (case hr => first | (go_simp; done) | (go_simp; rfl)); intro gb182 hg w54 hbox hb; have n0_ := Aside0.mk (blk_below (g := gb181) (o := .cells #[.int .i64 a0_0, .int .i64 a0_1] 23 (0, 0)) (by (with_reducible repeat (first | refine blk_drewN ?_ _ | refine blk_drew ?_ | refine blk_alloc ?_ _)); exact BK181.out) hb); have n1_ := Aside0.mk (below_step (by repeat (first | (with_reducible first | exact HB.out | apply below_alloc | apply pw_below_drewN | apply below_drew1 | refine below_set ?_ GE181.out) | exact HB.out)) hb); have n2_ := Aside0.mk (hbox); have n3_ := Aside0.mk ((by rw [hg]; exact (below_size (by repeat (first | (with_reducible first | exact HB.out | apply below_alloc | apply pw_below_drewN | apply below_drew1 | refine below_set ?_ GE181.out) | exact HB.out))) : w.heap.size ≤ gb182)); have n4_ := Aside0.mk ((by rw [hg]; exact (below_size (by repeat (first | (with_reducible first | exact HB.out | apply below_alloc | apply pw_below_drewN | apply below_drew1 | refine below_set ?_ GE181.out) | exact HB.out))) : w.heap.size ≤ gb182)); have n5_ := Aside0.mk ((by rw [hg]; exact Nat.ne_of_lt (blk_lt (g := gb181) (o := .cells #[.int .i64 a0_0, .int .i64 a0_1] 23 (0, 0)) (by (with_reducible repeat (first | refine blk_drewN ?_ _ | refine blk_drew ?_ | refine blk_alloc ?_ _)); exact BK181.out)) : gb181 ≠ gb182)); have n6_ := Aside0.mk ((by rw [hg]; exact Nat.ne_of_gt (blk_lt (g := gb181) (o := .cells #[.int .i64 a0_0, .int .i64 a0_1] 23 (0, 0)) (by (with_reducible repeat (first | refine blk_drewN ?_ _ | refine blk_drew ?_ | refine blk_alloc ?_ _)); exact BK181.out)) : gb182 ≠ gb181)); clear BK181; clear HB; have BK181 := n0_; have HB := n1_; have BK182 := n2_; have GW182 := n3_; have GE182 := n4_; have NB181_182 := n5_; have NB182_181 := n6_; clear n0_ n1_ n2_ n3_ n4_ n5_ n6_; clear hb hbox hg) | ((with_reducible refine gate_dst (N := 5) rfl ?_); refine box_event ?hg (N := 5) ?hd (cs := #[.int .i64 a2_0, .int .i64 a2_1]) (t := 23) ?hr ?_; (case hd => rfl); (case hg => rfl); (case hr => first | (go_simp; done) | (go_simp; rfl)); intro gb183 hg w55 hbox hb; have n0_ := Aside0.mk (blk_below (g := gb181) (o := .cells #[.int .i64 a0_0, .int .i64 a0_1] 23 (0, 0)) (by (with_reducible repeat (first | refine blk_drewN ?_ _ | refine blk_drew ?_ | refine blk_alloc ?_ _)); exact BK181.out) hb); have n1_ := Aside0.mk (blk_below (g := gb182) (o := .cells #[.int .i64 a1_0, .int .i64 a1_1] 23 (0, 0)) (by (with_reducible repeat (first | refine blk_drewN ?_ _ | refine blk_drew ?_ | refine blk_alloc ?_ _)); exact BK182.out) hb); have n2_ := Aside0.mk (below_step (by repeat (first | (with_reducible first | exact HB.out | apply below_alloc | apply pw_below_drewN | apply below_drew1 | refine below_set ?_ GE181.out | refine below_set ?_ GE182.out) | exact HB.out)) hb); have n3_ := Aside0.mk (hbox); have n4_ := Aside0.mk ((by rw [hg]; exact (below_size (by repeat (first | (with_reducible first | exact HB.out | apply below_alloc | apply pw_below_drewN | apply below_drew1 | refine below_set ?_ GE181.out | refine below_set ?_ GE182.out) | exact HB.out))) : w.heap.size ≤ gb183)); have n5_ := Aside0.mk ((by rw [hg]; exact (below_size (by repeat (first | (with_reducible first | exact HB.out | apply below_alloc | apply pw_below_drewN | apply below_drew1 | refine below_set ?_ GE181.out | refine below_set ?_ GE182.out) | exact HB.out))) : w.heap.size ≤ gb183)); have n6_ := Aside0.mk ((by rw [hg]; exact Nat.ne_of_lt (blk_lt (g := gb181) (o := .cells #[.int .i64 a0_0, .int .i64 a0_1] 23 (0, 0)) (by (with_reducible repeat (first | refine blk_drewN ?_ _ | refine blk_drew ?_ | refine blk_alloc ?_ _)); exact BK181.out)) : gb181 ≠ gb183)); have n7_ := Aside0.mk ((by rw [hg]; exact Nat.ne_of_gt (blk_lt (g := gb181) (o := .cells #[.int .i64 a0_0, .int .i64 a0_1] 23 (0, 0)) (by (with_reducible repeat (first | refine blk_drewN ?_ _ | refine blk_drew ?_ | refine blk_alloc ?_ _)); exact BK181.out)) : gb183 ≠ gb181)); have n8_ := Aside0.mk ((by rw [hg]; exact Nat.ne_of_lt (blk_lt (g := gb182) (o := .cells #[.int .i64 a1_0, .int .i64 a1_1] 23 (0, 0)) (by (with_reducible repeat (first | refine blk_drewN ?_ _ | refine blk_drew ?_ | refine blk_alloc ?_ _)); exact BK182.out)) : gb182 ≠ gb183)); have n9_ := Aside0.mk ((by rw [hg]; exact Nat.ne_of_gt (blk_lt (g := gb182) (o := .cells #[.int .i64 a1_0, .int .i64 a1_1] 23 (0, 0)) (by (with_reducible repeat (first | refine blk_drewN ?_ _ | refine blk_drew ?_ | refine blk_alloc ?_ _)); exact BK182.out)) : gb183 ≠ gb182)); clear BK181; clear BK182; clear HB; have BK181 := n0_; have BK182 := n1_; have HB := n2_; have BK183 := n3_; have GW183 := n4_; have GE183 := n5_; have NB181_183 := n6_; have NB183_181 := n7_; have NB182_183 := n8_; have NB183_182 := n9_; clear n0_ n1_ n2_ n3_ n4_ n5_ n6_ n7_ n8_ n9_; clear hb hbox hg; have hnb56 := NB181_182.out; have hnc56 := NB182_181.out; have hnb57 := NB181_183.out; have hnc57 := NB183_181.out; have hcz58_0 : w55.cell? ⟨gb181, 0, none⟩ = some (.int .i64 a0_0) := (blk_cell BK181.out 0).trans rfl; have hcz58_1 : w55.cell? ⟨gb181, 1, none⟩ = some (.int .i64 a0_1) := (blk_cell BK181.out 1).trans rfl; have hfz58_0 := blk_frozen BK181.out 0; have hfz58_1 := blk_frozen BK181.out 1) | ((with_reducible refine gate_callee (f := 21) rfl ?_); refine goesL_ (some 8) rfl rfl Try.func21 (by kernel_rfl) rfl #[.agg #[.int .i64 a0_0, .int .i64 a0_1]] rfl (by (try simp only [List.map_toArray, List.map_cons, List.map_nil]); first | done | rfl | (simp only [List.length_drop, List.length_take]; rfl)) ?_; (with_reducible refine (cobwebref04_Right.calls a0_0 a0_1 true _ A4.out).mono ?_); rintro e w59 ⟨rfl, hb⟩; refine ⟨_, rfl, ?_⟩; have n0_ := Aside0.mk (blk_below (g := gb181) (o := .cells #[.int .i64 a0_0, .int .i64 a0_1] 23 (0, 0)) (by (with_reducible repeat (first | refine blk_drewN ?_ _ | refine blk_drew ?_ | refine blk_alloc ?_ _)); exact BK181.out) hb); have n1_ := Aside0.mk (blk_below (g := gb182) (o := .cells #[.int .i64 a1_0, .int .i64 a1_1] 23 (0, 0)) (by (with_reducible repeat (first | refine blk_drewN ?_ _ | refine blk_drew ?_ | refine blk_alloc ?_ _)); exact BK182.out) hb); have n2_ := Aside0.mk (blk_below (g := gb183) (o := .cells #[.int .i64 a2_0, .int .i64 a2_1] 23 (0, 0)) (by (with_reducible repeat (first | refine blk_drewN ?_ _ | refine blk_drew ?_ | refine blk_alloc ?_ _)); exact BK183.out) hb); have n3_ := Aside0.mk (below_step (by repeat (first | (with_reducible first | exact HB.out | apply below_alloc | apply pw_below_drewN | apply below_drew1 | refine below_set ?_ GE181.out | refine below_set ?_ GE182.out | refine below_set ?_ GE183.out) | exact HB.out)) hb); clear BK181; clear BK182; clear BK183; clear HB; have BK181 := n0_; have BK182 := n1_; have BK183 := n2_; have HB := n3_; clear n0_ n1_ n2_ n3_; (try clear hb); (try clear hb2); (try clear hk); (try clear hi); have hnb60 := NB182_183.out; have hnc60 := NB183_182.out; have hcz61_0 : w59.cell? ⟨gb182, 0, none⟩ = some (.int .i64 a1_0) := (blk_cell BK182.out 0).trans rfl; have hcz61_1 : w59.cell? ⟨gb182, 1, none⟩ = some (.int .i64 a1_1) := (blk_cell BK182.out 1).trans rfl; have hfz61_0 := blk_frozen BK182.out 0; have hfz61_1 := blk_frozen BK182.out 1) | (go_at_call 21; (with_reducible refine (cobwebref04_Right.calls a1_0 a1_1 true _ A6.out).mono ?_); rintro e w62 ⟨rfl, hb⟩; have n0_ := Aside0.mk (blk_below (g := gb181) (o := .cells #[.int .i64 a0_0, .int .i64 a0_1] 23 (0, 0)) (by (with_reducible repeat (first | refine blk_drewN ?_ _ | refine blk_drew ?_ | refine blk_alloc ?_ _)); exact BK181.out) hb); have n1_ := Aside0.mk (blk_below (g := gb182) (o := .cells #[.int .i64 a1_0, .int .i64 a1_1] 23 (0, 0)) (by (with_reducible repeat (first | refine blk_drewN ?_ _ | refine blk_drew ?_ | refine blk_alloc ?_ _)); exact BK182.out) hb); have n2_ := Aside0.mk (blk_below (g := gb183) (o := .cells #[.int .i64 a2_0, .int .i64 a2_1] 23 (0, 0)) (by (with_reducible repeat (first | refine blk_drewN ?_ _ | refine blk_drew ?_ | refine blk_alloc ?_ _)); exact BK183.out) hb); have n3_ := Aside0.mk (below_step (by repeat (first | (with_reducible first | exact HB.out | apply below_alloc | apply pw_below_drewN | apply below_drew1 | refine below_set ?_ GE181.out | refine below_set ?_ GE182.out | refine below_set ?_ GE183.out) | exact HB.out)) hb); clear BK181; clear BK182; clear BK183; clear HB; have BK181 := n0_; have BK182 := n1_; have BK183 := n2_; have HB := n3_; clear n0_ n1_ n2_ n3_; (try clear hb); (try clear hb2); (try clear hk); (try clear hi); have hcz63_0 : w62.cell? ⟨gb183, 0, none⟩ = some (.int .i64 a2_0) := (blk_cell BK183.out 0).trans rfl; have hcz63_1 : w62.cell? ⟨gb183, 1, none⟩ = some (.int .i64 a2_1) := (blk_cell BK183.out 1).trans rfl; have hfz63_0 := blk_frozen BK183.out 0; have hfz63_1 := blk_frozen BK183.out 1) | (go_at_call 21; (with_reducible refine (cobwebref04_Right.calls a2_0 a2_1 true _ A8.out).mono ?_); rintro e w64 ⟨rfl, hb⟩; have n0_ := Aside0.mk (blk_below (g := gb181) (o := .cells #[.int .i64 a0_0, .int .i64 a0_1] 23 (0, 0)) (by (with_reducible repeat (first | refine blk_drewN ?_ _ | refine blk_drew ?_ | refine blk_alloc ?_ _)); exact BK181.out) hb); have n1_ := Aside0.mk (blk_below (g := gb182) (o := .cells #[.int .i64 a1_0, .int .i64 a1_1] 23 (0, 0)) (by (with_reducible repeat (first | refine blk_drewN ?_ _ | refine blk_drew ?_ | refine blk_alloc ?_ _)); exact BK182.out) hb); have n2_ := Aside0.mk (blk_below (g := gb183) (o := .cells #[.int .i64 a2_0, .int .i64 a2_1] 23 (0, 0)) (by (with_reducible repeat (first | refine blk_drewN ?_ _ | refine blk_drew ?_ | refine blk_alloc ?_ _)); exact BK183.out) hb); have n3_ := Aside0.mk (below_step (by repeat (first | (with_reducible first | exact HB.out | apply below_alloc | apply pw_below_drewN | apply below_drew1 | refine below_set ?_ GE181.out | refine below_set ?_ GE182.out | refine below_set ?_ GE183.out) | exact HB.out)) hb); clear BK181; clear BK182; clear BK183; clear HB; have BK181 := n0_; have BK182 := n1_; have BK183 := n2_; have HB := n3_; clear n0_ n1_ n2_ n3_; (try clear hb); (try clear hb2); (try clear hk); (try clear hi); have hcz65_0 : w64.cell? ⟨gb182, 0, none⟩ = some (.int .i64 a1_0) := (blk_cell BK182.out 0).trans rfl; have hcz65_1 : w64.cell? ⟨gb182, 1, none⟩ = some (.int .i64 a1_1) := (blk_cell BK182.out 1).trans rfl; have hfz65_0 := blk_frozen BK182.out 0; have hfz65_1 := blk_frozen BK182.out 1; have hcz66_0 : w64.cell? ⟨gb181, 0, none⟩ = some (.int .i64 a0_0) := (blk_cell BK181.out 0).trans rfl; have hcz66_1 : w64.cell? ⟨gb181, 1, none⟩ = some (.int .i64 a0_1) := (blk_cell BK181.out 1).trans rfl; have hfz66_0 := blk_frozen BK181.out 0; have hfz66_1 := blk_frozen BK181.out 1; have hcz67_0 : w64.cell? ⟨gb183, 0, none⟩ = some (.int .i64 a2_0) := (blk_cell BK183.out 0).trans rfl; have hcz67_1 : w64.cell? ⟨gb183, 1, none⟩ = some (.int .i64 a2_1) := (blk_cell BK183.out 1).trans rfl; have hfz67_0 := blk_frozen BK183.out 0; have hfz67_1 := blk_frozen BK183.out 1) | (go_at_call 22; (with_reducible refine (cobwebref04_Cross.calls k a1_0 a1_1 a0_0 a0_1 a2_0 a2_1 t187 _ A10.out).mono ?_); rintro e w68 ⟨rfl, hb⟩; have n0_ := Aside0.mk (blk_below (g := gb181) (o := .cells #[.int .i64 a0_0, .int .i64 a0_1] 23 (0, 0)) (by (with_reducible repeat (first | refine blk_drewN ?_ _ | refine blk_drew ?_ | refine blk_alloc ?_ _)); exact BK181.out) hb); have n1_ := Aside0.mk (blk_below (g := gb182) (o := .cells #[.int .i64 a1_0, .int .i64 a1_1] 23 (0, 0)) (by (with_reducible repeat (first | refine blk_drewN ?_ _ | refine blk_drew ?_ | refine blk_alloc ?_ _)); exact BK182.out) hb); have n2_ := Aside0.mk (blk_below (g := gb183) (o := .cells #[.int .i64 a2_0, .int .i64 a2_1] 23 (0, 0)) (by (with_reducible repeat (first | refine blk_drewN ?_ _ | refine blk_drew ?_ | refine blk_alloc ?_ _)); exact BK183.out) hb); have n3_ := Aside0.mk (below_step (by repeat (first | (with_reducible first | exact HB.out | apply below_alloc | apply pw_below_drewN | apply below_drew1 | refine below_set ?_ GE181.out | refine below_set ?_ GE182.out | refine below_set ?_ GE183.out) | exact HB.out)) hb); clear BK181; clear BK182; clear BK183; clear HB; have BK181 := n0_; have BK182 := n1_; have BK183 := n2_; have HB := n3_; clear n0_ n1_ n2_ n3_; (try clear hb); (try clear hb2); (try clear hk); (try clear hi)))
          go_ret
          exact ⟨by first | rfl | (simp [errW_none, errW_some] <;> rfl) | (simp [*, errW_none, errW_some] <;> rfl), by repeat (first | (with_reducible first | exact HB.out | apply below_alloc | apply pw_below_drewN | apply below_drew1 | refine below_set ?_ GE181.out | refine below_set ?_ GE182.out | refine below_set ?_ GE183.out) | exact HB.out)⟩
      · replace c9 := Bool.eq_false_iff.mpr c9
        subst c9
        have H1 : (some false) = some r := by rw [if_neg (show ¬ (false = true) by decide)] at H; exact H
        clear H
        have H := H1
        clear H1
        obtain rfl := Option.some.inj H
        go_enter Try.func27, Try.ntmps27
        go_wp2_with (first | ((with_reducible refine gate_dst (N := 3) rfl ?_); refine box_event ?hg (N := 3) ?hd (cs := #[.int .i64 a0_0, .int .i64 a0_1]) (t := 23) ?hr ?_; (case hd => rfl); (case hg => rfl); (case hr => first | (go_simp; done) | (go_simp; rfl)); intro gb181 hg w69 hbox hb; have n0_ := Aside0.mk (below_step (by repeat (first | (with_reducible first | exact HB.out | apply below_alloc | apply pw_below_drewN | apply below_drew1) | exact HB.out)) hb); have n1_ := Aside0.mk (hbox); have n2_ := Aside0.mk ((by rw [hg]; exact (below_size (by repeat (first | (with_reducible first | exact HB.out | apply below_alloc | apply pw_below_drewN | apply below_drew1) | exact HB.out))) : w.heap.size ≤ gb181)); have n3_ := Aside0.mk ((by rw [hg]; exact (below_size (by repeat (first | (with_reducible first | exact HB.out | apply below_alloc | apply pw_below_drewN | apply below_drew1) | exact HB.out))) : w.heap.size ≤ gb181)); clear HB; have HB := n0_; have BK181 := n1_; have GW181 := n2_; have GE181 := n3_; clear n0_ n1_ n2_ n3_; clear hb hbox hg) | ((with_reducible refine gate_dst (N := 4) rfl ?_); refine box_event ?hg (N := 4) ?hd (cs := #[.int .i64 a1_0, .int .i64 a1_1]) (t := 23) ?hr ?_; (case hd => rfl); (case hg => rfl); (case hr => first | (go_simp; done) | (go_simp; rfl)); intro gb182 hg w70 hbox hb; have n0_ := Aside0.mk (blk_below (g := gb181) (o := .cells #[.int .i64 a0_0, .int .i64 a0_1] 23 (0, 0)) (by (with_reducible repeat (first | refine blk_drewN ?_ _ | refine blk_drew ?_ | refine blk_alloc ?_ _)); exact BK181.out) hb); have n1_ := Aside0.mk (below_step (by repeat (first | (with_reducible first | exact HB.out | apply below_alloc | apply pw_below_drewN | apply below_drew1 | refine below_set ?_ GE181.out) | exact HB.out)) hb); have n2_ := Aside0.mk (hbox); have n3_ := Aside0.mk ((by rw [hg]; exact (below_size (by repeat (first | (with_reducible first | exact HB.out | apply below_alloc | apply pw_below_drewN | apply below_drew1 | refine below_set ?_ GE181.out) | exact HB.out))) : w.heap.size ≤ gb182)); have n4_ := Aside0.mk ((by rw [hg]; exact (below_size (by repeat (first | (with_reducible first | exact HB.out | apply below_alloc | apply pw_below_drewN | apply below_drew1 | refine below_set ?_ GE181.out) | exact HB.out))) : w.heap.size ≤ gb182)); have n5_ := Aside0.mk ((by rw [hg]; exact Nat.ne_of_lt (blk_lt (g := gb181) (o := .cells #[.int .i64 a0_0, .int .i64 a0_1] 23 (0, 0)) (by (with_reducible repeat (first | refine blk_drewN ?_ _ | refine blk_drew ?_ | refine blk_alloc ?_ _)); exact BK181.out)) : gb181 ≠ gb182)); have n6_ := Aside0.mk ((by rw [hg]; exact Nat.ne_of_gt (blk_lt (g := gb181) (o := .cells #[.int .i64 a0_0, .int .i64 a0_1] 23 (0, 0)) (by (with_reducible repeat (first | refine blk_drewN ?_ _ | refine blk_drew ?_ | refine blk_alloc ?_ _)); exact BK181.out)) : gb182 ≠ gb181)); clear BK181; clear HB; have BK181 := n0_; have HB := n1_; have BK182 := n2_; have GW182 := n3_; have GE182 := n4_; have NB181_182 := n5_; have NB182_181 := n6_; clear n0_ n1_ n2_ n3_ n4_ n5_ n6_; clear hb hbox hg) | ((with_reducible refine gate_dst (N := 5) rfl ?_); refine box_event ?hg (N := 5) ?hd (cs := #[.int .i64 a2_0, .int .i64 a2_1]) (t := 23) ?hr ?_; (case hd => rfl); (case hg => rfl); (case hr => first | (go_simp; done) | (go_simp; rfl)); intro gb183 hg w71 hbox hb; have n0_ := Aside0.mk (blk_below (g := gb181) (o := .cells #[.int .i64 a0_0, .int .i64 a0_1] 23 (0, 0)) (by (with_reducible repeat (first | refine blk_drewN ?_ _ | refine blk_drew ?_ | refine blk_alloc ?_ _)); exact BK181.out) hb); have n1_ := Aside0.mk (blk_below (g := gb182) (o := .cells #[.int .i64 a1_0, .int .i64 a1_1] 23 (0, 0)) (by (with_reducible repeat (first | refine blk_drewN ?_ _ | refine blk_drew ?_ | refine blk_alloc ?_ _)); exact BK182.out) hb); have n2_ := Aside0.mk (below_step (by repeat (first | (with_reducible first | exact HB.out | apply below_alloc | apply pw_below_drewN | apply below_drew1 | refine below_set ?_ GE181.out | refine below_set ?_ GE182.out) | exact HB.out)) hb); have n3_ := Aside0.mk (hbox); have n4_ := Aside0.mk ((by rw [hg]; exact (below_size (by repeat (first | (with_reducible first | exact HB.out | apply below_alloc | apply pw_below_drewN | apply below_drew1 | refine below_set ?_ GE181.out | refine below_set ?_ GE182.out) | exact HB.out))) : w.heap.size ≤ gb183)); have n5_ := Aside0.mk ((by rw [hg]; exact (below_size (by repeat (first | (with_reducible first | exact HB.out | apply below_alloc | apply pw_below_drewN | apply below_drew1 | refine below_set ?_ GE181.out | refine below_set ?_ GE182.out) | exact HB.out))) : w.heap.size ≤ gb183)); have n6_ := Aside0.mk ((by rw [hg]; exact Nat.ne_of_lt (blk_lt (g := gb181) (o := .cells #[.int .i64 a0_0, .int .i64 a0_1] 23 (0, 0)) (by (with_reducible repeat (first | refine blk_drewN ?_ _ | refine blk_drew ?_ | refine blk_alloc ?_ _)); exact BK181.out)) : gb181 ≠ gb183)); have n7_ := Aside0.mk ((by rw [hg]; exact Nat.ne_of_gt (blk_lt (g := gb181) (o := .cells #[.int .i64 a0_0, .int .i64 a0_1] 23 (0, 0)) (by (with_reducible repeat (first | refine blk_drewN ?_ _ | refine blk_drew ?_ | refine blk_alloc ?_ _)); exact BK181.out)) : gb183 ≠ gb181)); have n8_ := Aside0.mk ((by rw [hg]; exact Nat.ne_of_lt (blk_lt (g := gb182) (o := .cells #[.int .i64 a1_0, .int .i64 a1_1] 23 (0, 0)) (by (with_reducible repeat (first | refine blk_drewN ?_ _ | refine blk_drew ?_ | refine blk_alloc ?_ _)); exact BK182.out)) : gb182 ≠ gb183)); have n9_ := Aside0.mk ((by rw [hg]; exact Nat.ne_of_gt (blk_lt (g := gb182) (o := .cells #[.int .i64 a1_0, .int .i64 a1_1] 23 (0, 0)) (by (with_reducible repeat (first | refine blk_drewN ?_ _ | refine blk_drew ?_ | refine blk_alloc ?_ _)); exact BK182.out)) : gb183 ≠ gb182)); clear BK181; clear BK182; clear HB; have BK181 := n0_; have BK182 := n1_; have HB := n2_; have BK183 := n3_; have GW183 := n4_; have GE183 := n5_; have NB181_183 := n6_; have NB183_181 := n7_; have NB182_183 := n8_; have NB183_182 := n9_; clear n0_ n1_ n2_ n3_ n4_ n5_ n6_ n7_ n8_ n9_; clear hb hbox hg; have hnb72 := NB181_182.out; have hnc72 := NB182_181.out; have hnb73 := NB181_183.out; have hnc73 := NB183_181.out; have hcz74_0 : w71.cell? ⟨gb181, 0, none⟩ = some (.int .i64 a0_0) := (blk_cell BK181.out 0).trans rfl; have hcz74_1 : w71.cell? ⟨gb181, 1, none⟩ = some (.int .i64 a0_1) := (blk_cell BK181.out 1).trans rfl; have hfz74_0 := blk_frozen BK181.out 0; have hfz74_1 := blk_frozen BK181.out 1) | ((with_reducible refine gate_callee (f := 21) rfl ?_); refine goesL_ (some 8) rfl rfl Try.func21 (by kernel_rfl) rfl #[.agg #[.int .i64 a0_0, .int .i64 a0_1]] rfl (by (try simp only [List.map_toArray, List.map_cons, List.map_nil]); first | done | rfl | (simp only [List.length_drop, List.length_take]; rfl)) ?_; (with_reducible refine (cobwebref04_Right.calls a0_0 a0_1 true _ A4.out).mono ?_); rintro e w75 ⟨rfl, hb⟩; refine ⟨_, rfl, ?_⟩; have n0_ := Aside0.mk (blk_below (g := gb181) (o := .cells #[.int .i64 a0_0, .int .i64 a0_1] 23 (0, 0)) (by (with_reducible repeat (first | refine blk_drewN ?_ _ | refine blk_drew ?_ | refine blk_alloc ?_ _)); exact BK181.out) hb); have n1_ := Aside0.mk (blk_below (g := gb182) (o := .cells #[.int .i64 a1_0, .int .i64 a1_1] 23 (0, 0)) (by (with_reducible repeat (first | refine blk_drewN ?_ _ | refine blk_drew ?_ | refine blk_alloc ?_ _)); exact BK182.out) hb); have n2_ := Aside0.mk (blk_below (g := gb183) (o := .cells #[.int .i64 a2_0, .int .i64 a2_1] 23 (0, 0)) (by (with_reducible repeat (first | refine blk_drewN ?_ _ | refine blk_drew ?_ | refine blk_alloc ?_ _)); exact BK183.out) hb); have n3_ := Aside0.mk (below_step (by repeat (first | (with_reducible first | exact HB.out | apply below_alloc | apply pw_below_drewN | apply below_drew1 | refine below_set ?_ GE181.out | refine below_set ?_ GE182.out | refine below_set ?_ GE183.out) | exact HB.out)) hb); clear BK181; clear BK182; clear BK183; clear HB; have BK181 := n0_; have BK182 := n1_; have BK183 := n2_; have HB := n3_; clear n0_ n1_ n2_ n3_; (try clear hb); (try clear hb2); (try clear hk); (try clear hi); have hnb76 := NB182_183.out; have hnc76 := NB183_182.out; have hcz77_0 : w75.cell? ⟨gb182, 0, none⟩ = some (.int .i64 a1_0) := (blk_cell BK182.out 0).trans rfl; have hcz77_1 : w75.cell? ⟨gb182, 1, none⟩ = some (.int .i64 a1_1) := (blk_cell BK182.out 1).trans rfl; have hfz77_0 := blk_frozen BK182.out 0; have hfz77_1 := blk_frozen BK182.out 1) | (go_at_call 21; (with_reducible refine (cobwebref04_Right.calls a1_0 a1_1 true _ A6.out).mono ?_); rintro e w78 ⟨rfl, hb⟩; have n0_ := Aside0.mk (blk_below (g := gb181) (o := .cells #[.int .i64 a0_0, .int .i64 a0_1] 23 (0, 0)) (by (with_reducible repeat (first | refine blk_drewN ?_ _ | refine blk_drew ?_ | refine blk_alloc ?_ _)); exact BK181.out) hb); have n1_ := Aside0.mk (blk_below (g := gb182) (o := .cells #[.int .i64 a1_0, .int .i64 a1_1] 23 (0, 0)) (by (with_reducible repeat (first | refine blk_drewN ?_ _ | refine blk_drew ?_ | refine blk_alloc ?_ _)); exact BK182.out) hb); have n2_ := Aside0.mk (blk_below (g := gb183) (o := .cells #[.int .i64 a2_0, .int .i64 a2_1] 23 (0, 0)) (by (with_reducible repeat (first | refine blk_drewN ?_ _ | refine blk_drew ?_ | refine blk_alloc ?_ _)); exact BK183.out) hb); have n3_ := Aside0.mk (below_step (by repeat (first | (with_reducible first | exact HB.out | apply below_alloc | apply pw_below_drewN | apply below_drew1 | refine below_set ?_ GE181.out | refine below_set ?_ GE182.out | refine below_set ?_ GE183.out) | exact HB.out)) hb); clear BK181; clear BK182; clear BK183; clear HB; have BK181 := n0_; have BK182 := n1_; have BK183 := n2_; have HB := n3_; clear n0_ n1_ n2_ n3_; (try clear hb); (try clear hb2); (try clear hk); (try clear hi); have hcz79_0 : w78.cell? ⟨gb183, 0, none⟩ = some (.int .i64 a2_0) := (blk_cell BK183.out 0).trans rfl; have hcz79_1 : w78.cell? ⟨gb183, 1, none⟩ = some (.int .i64 a2_1) := (blk_cell BK183.out 1).trans rfl; have hfz79_0 := blk_frozen BK183.out 0; have hfz79_1 := blk_frozen BK183.out 1) | (go_at_call 21; (with_reducible refine (cobwebref04_Right.calls a2_0 a2_1 false _ A8.out).mono ?_); rintro e w80 ⟨rfl, hb⟩; have n0_ := Aside0.mk (blk_below (g := gb181) (o := .cells #[.int .i64 a0_0, .int .i64 a0_1] 23 (0, 0)) (by (with_reducible repeat (first | refine blk_drewN ?_ _ | refine blk_drew ?_ | refine blk_alloc ?_ _)); exact BK181.out) hb); have n1_ := Aside0.mk (blk_below (g := gb182) (o := .cells #[.int .i64 a1_0, .int .i64 a1_1] 23 (0, 0)) (by (with_reducible repeat (first | refine blk_drewN ?_ _ | refine blk_drew ?_ | refine blk_alloc ?_ _)); exact BK182.out) hb); have n2_ := Aside0.mk (blk_below (g := gb183) (o := .cells #[.int .i64 a2_0, .int .i64 a2_1] 23 (0, 0)) (by (with_reducible repeat (first | refine blk_drewN ?_ _ | refine blk_drew ?_ | refine blk_alloc ?_ _)); exact BK183.out) hb); have n3_ := Aside0.mk (below_step (by repeat (first | (with_reducible first | exact HB.out | apply below_alloc | apply pw_below_drewN | apply below_drew1 | refine below_set ?_ GE181.out | refine below_set ?_ GE182.out | refine below_set ?_ GE183.out) | exact HB.out)) hb); clear BK181; clear BK182; clear BK183; clear HB; have BK181 := n0_; have BK182 := n1_; have BK183 := n2_; have HB := n3_; clear n0_ n1_ n2_ n3_; (try clear hb); (try clear hb2); (try clear hk); (try clear hi)))
        go_ret
        exact ⟨by first | rfl | (simp [errW_none, errW_some] <;> rfl) | (simp [*, errW_none, errW_some] <;> rfl), by repeat (first | (with_reducible first | exact HB.out | apply below_alloc | apply pw_below_drewN | apply below_drew1 | refine below_set ?_ GE181.out | refine below_set ?_ GE182.out | refine below_set ?_ GE183.out) | exact HB.out)⟩
    · replace c7 := Bool.eq_false_iff.mpr c7
      subst c7
      have H1 : (some false) = some r := by rw [if_neg (show ¬ (false = true) by decide)] at H; exact H
      clear H
      have H := H1
      clear H1
      obtain rfl := Option.some.inj H
      go_enter Try.func27, Try.ntmps27
      go_wp2_with (first | ((with_reducible refine gate_dst (N := 3) rfl ?_); refine box_event ?hg (N := 3) ?hd (cs := #[.int .i64 a0_0, .int .i64 a0_1]) (t := 23) ?hr ?_; (case hd => rfl); (case hg => rfl); (case hr => first | (go_simp; done) | (go_simp; rfl)); intro gb181 hg w81 hbox hb; have n0_ := Aside0.mk (below_step (by repeat (first | (with_reducible first | exact HB.out | apply below_alloc | apply pw_below_drewN | apply below_drew1) | exact HB.out)) hb); have n1_ := Aside0.mk (hbox); have n2_ := Aside0.mk ((by rw [hg]; exact (below_size (by repeat (first | (with_reducible first | exact HB.out | apply below_alloc | apply pw_below_drewN | apply below_drew1) | exact HB.out))) : w.heap.size ≤ gb181)); have n3_ := Aside0.mk ((by rw [hg]; exact (below_size (by repeat (first | (with_reducible first | exact HB.out | apply below_alloc | apply pw_below_drewN | apply below_drew1) | exact HB.out))) : w.heap.size ≤ gb181)); clear HB; have HB := n0_; have BK181 := n1_; have GW181 := n2_; have GE181 := n3_; clear n0_ n1_ n2_ n3_; clear hb hbox hg) | ((with_reducible refine gate_dst (N := 4) rfl ?_); refine box_event ?hg (N := 4) ?hd (cs := #[.int .i64 a1_0, .int .i64 a1_1]) (t := 23) ?hr ?_; (case hd => rfl); (case hg => rfl); (case hr => first | (go_simp; done) | (go_simp; rfl)); intro gb182 hg w82 hbox hb; have n0_ := Aside0.mk (blk_below (g := gb181) (o := .cells #[.int .i64 a0_0, .int .i64 a0_1] 23 (0, 0)) (by (with_reducible repeat (first | refine blk_drewN ?_ _ | refine blk_drew ?_ | refine blk_alloc ?_ _)); exact BK181.out) hb); have n1_ := Aside0.mk (below_step (by repeat (first | (with_reducible first | exact HB.out | apply below_alloc | apply pw_below_drewN | apply below_drew1 | refine below_set ?_ GE181.out) | exact HB.out)) hb); have n2_ := Aside0.mk (hbox); have n3_ := Aside0.mk ((by rw [hg]; exact (below_size (by repeat (first | (with_reducible first | exact HB.out | apply below_alloc | apply pw_below_drewN | apply below_drew1 | refine below_set ?_ GE181.out) | exact HB.out))) : w.heap.size ≤ gb182)); have n4_ := Aside0.mk ((by rw [hg]; exact (below_size (by repeat (first | (with_reducible first | exact HB.out | apply below_alloc | apply pw_below_drewN | apply below_drew1 | refine below_set ?_ GE181.out) | exact HB.out))) : w.heap.size ≤ gb182)); have n5_ := Aside0.mk ((by rw [hg]; exact Nat.ne_of_lt (blk_lt (g := gb181) (o := .cells #[.int .i64 a0_0, .int .i64 a0_1] 23 (0, 0)) (by (with_reducible repeat (first | refine blk_drewN ?_ _ | refine blk_drew ?_ | refine blk_alloc ?_ _)); exact BK181.out)) : gb181 ≠ gb182)); have n6_ := Aside0.mk ((by rw [hg]; exact Nat.ne_of_gt (blk_lt (g := gb181) (o := .cells #[.int .i64 a0_0, .int .i64 a0_1] 23 (0, 0)) (by (with_reducible repeat (first | refine blk_drewN ?_ _ | refine blk_drew ?_ | refine blk_alloc ?_ _)); exact BK181.out)) : gb182 ≠ gb181)); clear BK181; clear HB; have BK181 := n0_; have HB := n1_; have BK182 := n2_; have GW182 := n3_; have GE182 := n4_; have NB181_182 := n5_; have NB182_181 := n6_; clear n0_ n1_ n2_ n3_ n4_ n5_ n6_; clear hb hbox hg) | ((with_reducible refine gate_dst (N := 5) rfl ?_); refine box_event ?hg (N := 5) ?hd (cs := #[.int .i64 a2_0, .int .i64 a2_1]) (t := 23) ?hr ?_; (case hd => rfl); (case hg => rfl); (case hr => first | (go_simp; done) | (go_simp; rfl)); intro gb183 hg w83 hbox hb; have n0_ := Aside0.mk (blk_below (g := gb181) (o := .cells #[.int .i64 a0_0, .int .i64 a0_1] 23 (0, 0)) (by (with_reducible repeat (first | refine blk_drewN ?_ _ | refine blk_drew ?_ | refine blk_alloc ?_ _)); exact BK181.out) hb); have n1_ := Aside0.mk (blk_below (g := gb182) (o := .cells #[.int .i64 a1_0, .int .i64 a1_1] 23 (0, 0)) (by (with_reducible repeat (first | refine blk_drewN ?_ _ | refine blk_drew ?_ | refine blk_alloc ?_ _)); exact BK182.out) hb); have n2_ := Aside0.mk (below_step (by repeat (first | (with_reducible first | exact HB.out | apply below_alloc | apply pw_below_drewN | apply below_drew1 | refine below_set ?_ GE181.out | refine below_set ?_ GE182.out) | exact HB.out)) hb); have n3_ := Aside0.mk (hbox); have n4_ := Aside0.mk ((by rw [hg]; exact (below_size (by repeat (first | (with_reducible first | exact HB.out | apply below_alloc | apply pw_below_drewN | apply below_drew1 | refine below_set ?_ GE181.out | refine below_set ?_ GE182.out) | exact HB.out))) : w.heap.size ≤ gb183)); have n5_ := Aside0.mk ((by rw [hg]; exact (below_size (by repeat (first | (with_reducible first | exact HB.out | apply below_alloc | apply pw_below_drewN | apply below_drew1 | refine below_set ?_ GE181.out | refine below_set ?_ GE182.out) | exact HB.out))) : w.heap.size ≤ gb183)); have n6_ := Aside0.mk ((by rw [hg]; exact Nat.ne_of_lt (blk_lt (g := gb181) (o := .cells #[.int .i64 a0_0, .int .i64 a0_1] 23 (0, 0)) (by (with_reducible repeat (first | refine blk_drewN ?_ _ | refine blk_drew ?_ | refine blk_alloc ?_ _)); exact BK181.out)) : gb181 ≠ gb183)); have n7_ := Aside0.mk ((by rw [hg]; exact Nat.ne_of_gt (blk_lt (g := gb181) (o := .cells #[.int .i64 a0_0, .int .i64 a0_1] 23 (0, 0)) (by (with_reducible repeat (first | refine blk_drewN ?_ _ | refine blk_drew ?_ | refine blk_alloc ?_ _)); exact BK181.out)) : gb183 ≠ gb181)); have n8_ := Aside0.mk ((by rw [hg]; exact Nat.ne_of_lt (blk_lt (g := gb182) (o := .cells #[.int .i64 a1_0, .int .i64 a1_1] 23 (0, 0)) (by (with_reducible repeat (first | refine blk_drewN ?_ _ | refine blk_drew ?_ | refine blk_alloc ?_ _)); exact BK182.out)) : gb182 ≠ gb183)); have n9_ := Aside0.mk ((by rw [hg]; exact Nat.ne_of_gt (blk_lt (g := gb182) (o := .cells #[.int .i64 a1_0, .int .i64 a1_1] 23 (0, 0)) (by (with_reducible repeat (first | refine blk_drewN ?_ _ | refine blk_drew ?_ | refine blk_alloc ?_ _)); exact BK182.out)) : gb183 ≠ gb182)); clear BK181; clear BK182; clear HB; have BK181 := n0_; have BK182 := n1_; have HB := n2_; have BK183 := n3_; have GW183 := n4_; have GE183 := n5_; have NB181_183 := n6_; have NB183_181 := n7_; have NB182_183 := n8_; have NB183_182 := n9_; clear n0_ n1_ n2_ n3_ n4_ n5_ n6_ n7_ n8_ n9_; clear hb hbox hg; have hnb84 := NB181_182.out; have hnc84 := NB182_181.out; have hnb85 := NB181_183.out; have hnc85 := NB183_181.out; have hcz86_0 : w83.cell? ⟨gb181, 0, none⟩ = some (.int .i64 a0_0) := (blk_cell BK181.out 0).trans rfl; have hcz86_1 : w83.cell? ⟨gb181, 1, none⟩ = some (.int .i64 a0_1) := (blk_cell BK181.out 1).trans rfl; have hfz86_0 := blk_frozen BK181.out 0; have hfz86_1 := blk_frozen BK181.out 1) | ((with_reducible refine gate_callee (f := 21) rfl ?_); refine goesL_ (some 8) rfl rfl Try.func21 (by kernel_rfl) rfl #[.agg #[.int .i64 a0_0, .int .i64 a0_1]] rfl (by (try simp only [List.map_toArray, List.map_cons, List.map_nil]); first | done | rfl | (simp only [List.length_drop, List.length_take]; rfl)) ?_; (with_reducible refine (cobwebref04_Right.calls a0_0 a0_1 true _ A4.out).mono ?_); rintro e w87 ⟨rfl, hb⟩; refine ⟨_, rfl, ?_⟩; have n0_ := Aside0.mk (blk_below (g := gb181) (o := .cells #[.int .i64 a0_0, .int .i64 a0_1] 23 (0, 0)) (by (with_reducible repeat (first | refine blk_drewN ?_ _ | refine blk_drew ?_ | refine blk_alloc ?_ _)); exact BK181.out) hb); have n1_ := Aside0.mk (blk_below (g := gb182) (o := .cells #[.int .i64 a1_0, .int .i64 a1_1] 23 (0, 0)) (by (with_reducible repeat (first | refine blk_drewN ?_ _ | refine blk_drew ?_ | refine blk_alloc ?_ _)); exact BK182.out) hb); have n2_ := Aside0.mk (blk_below (g := gb183) (o := .cells #[.int .i64 a2_0, .int .i64 a2_1] 23 (0, 0)) (by (with_reducible repeat (first | refine blk_drewN ?_ _ | refine blk_drew ?_ | refine blk_alloc ?_ _)); exact BK183.out) hb); have n3_ := Aside0.mk (below_step (by repeat (first | (with_reducible first | exact HB.out | apply below_alloc | apply pw_below_drewN | apply below_drew1 | refine below_set ?_ GE181.out | refine below_set ?_ GE182.out | refine below_set ?_ GE183.out) | exact HB.out)) hb); clear BK181; clear BK182; clear BK183; clear HB; have BK181 := n0_; have BK182 := n1_; have BK183 := n2_; have HB := n3_; clear n0_ n1_ n2_ n3_; (try clear hb); (try clear hb2); (try clear hk); (try clear hi); have hnb88 := NB182_183.out; have hnc88 := NB183_182.out; have hcz89_0 : w87.cell? ⟨gb182, 0, none⟩ = some (.int .i64 a1_0) := (blk_cell BK182.out 0).trans rfl; have hcz89_1 : w87.cell? ⟨gb182, 1, none⟩ = some (.int .i64 a1_1) := (blk_cell BK182.out 1).trans rfl; have hfz89_0 := blk_frozen BK182.out 0; have hfz89_1 := blk_frozen BK182.out 1) | (go_at_call 21; (with_reducible refine (cobwebref04_Right.calls a1_0 a1_1 false _ A6.out).mono ?_); rintro e w90 ⟨rfl, hb⟩; have n0_ := Aside0.mk (blk_below (g := gb181) (o := .cells #[.int .i64 a0_0, .int .i64 a0_1] 23 (0, 0)) (by (with_reducible repeat (first | refine blk_drewN ?_ _ | refine blk_drew ?_ | refine blk_alloc ?_ _)); exact BK181.out) hb); have n1_ := Aside0.mk (blk_below (g := gb182) (o := .cells #[.int .i64 a1_0, .int .i64 a1_1] 23 (0, 0)) (by (with_reducible repeat (first | refine blk_drewN ?_ _ | refine blk_drew ?_ | refine blk_alloc ?_ _)); exact BK182.out) hb); have n2_ := Aside0.mk (blk_below (g := gb183) (o := .cells #[.int .i64 a2_0, .int .i64 a2_1] 23 (0, 0)) (by (with_reducible repeat (first | refine blk_drewN ?_ _ | refine blk_drew ?_ | refine blk_alloc ?_ _)); exact BK183.out) hb); have n3_ := Aside0.mk (below_step (by repeat (first | (with_reducible first | exact HB.out | apply below_alloc | apply pw_below_drewN | apply below_drew1 | refine below_set ?_ GE181.out | refine below_set ?_ GE182.out | refine below_set ?_ GE183.out) | exact HB.out)) hb); clear BK181; clear BK182; clear BK183; clear HB; have BK181 := n0_; have BK182 := n1_; have BK183 := n2_; have HB := n3_; clear n0_ n1_ n2_ n3_; (try clear hb); (try clear hb2); (try clear hk); (try clear hi)))
      go_ret
      exact ⟨by first | rfl | (simp [errW_none, errW_some] <;> rfl) | (simp [*, errW_none, errW_some] <;> rfl), by repeat (first | (with_reducible first | exact HB.out | apply below_alloc | apply pw_below_drewN | apply below_drew1 | refine below_set ?_ GE181.out | refine below_set ?_ GE182.out | refine below_set ?_ GE183.out) | exact HB.out)⟩
  · replace c5 := Bool.eq_false_iff.mpr c5
    subst c5
    have H1 : (some false) = some r := by rw [if_neg (show ¬ (false = true) by decide)] at H; exact H
    clear H
    have H := H1
    clear H1
    obtain rfl := Option.some.inj H
    go_enter Try.func27, Try.ntmps27
    go_wp2_with (first | ((with_reducible refine gate_dst (N := 3) rfl ?_); refine box_event ?hg (N := 3) ?hd (cs := #[.int .i64 a0_0, .int .i64 a0_1]) (t := 23) ?hr ?_; (case hd => rfl); (case hg => rfl); (case hr => first | (go_simp; done) | (go_simp; rfl)); intro gb181 hg w91 hbox hb; have n0_ := Aside0.mk (below_step (by repeat (first | (with_reducible first | exact HB.out | apply below_alloc | apply pw_below_drewN | apply below_drew1) | exact HB.out)) hb); have n1_ := Aside0.mk (hbox); have n2_ := Aside0.mk ((by rw [hg]; exact (below_size (by repeat (first | (with_reducible first | exact HB.out | apply below_alloc | apply pw_below_drewN | apply below_drew1) | exact HB.out))) : w.heap.size ≤ gb181)); have n3_ := Aside0.mk ((by rw [hg]; exact (below_size (by repeat (first | (with_reducible first | exact HB.out | apply below_alloc | apply pw_below_drewN | apply below_drew1) | exact HB.out))) : w.heap.size ≤ gb181)); clear HB; have HB := n0_; have BK181 := n1_; have GW181 := n2_; have GE181 := n3_; clear n0_ n1_ n2_ n3_; clear hb hbox hg) | ((with_reducible refine gate_dst (N := 4) rfl ?_); refine box_event ?hg (N := 4) ?hd (cs := #[.int .i64 a1_0, .int .i64 a1_1]) (t := 23) ?hr ?_; (case hd => rfl); (case hg => rfl); (case hr => first | (go_simp; done) | (go_simp; rfl)); intro gb182 hg w92 hbox hb; have n0_ := Aside0.mk (blk_below (g := gb181) (o := .cells #[.int .i64 a0_0, .int .i64 a0_1] 23 (0, 0)) (by (with_reducible repeat (first | refine blk_drewN ?_ _ | refine blk_drew ?_ | refine blk_alloc ?_ _)); exact BK181.out) hb); have n1_ := Aside0.mk (below_step (by repeat (first | (with_reducible first | exact HB.out | apply below_alloc | apply pw_below_drewN | apply below_drew1 | refine below_set ?_ GE181.out) | exact HB.out)) hb); have n2_ := Aside0.mk (hbox); have n3_ := Aside0.mk ((by rw [hg]; exact (below_size (by repeat (first | (with_reducible first | exact HB.out | apply below_alloc | apply pw_below_drewN | apply below_drew1 | refine below_set ?_ GE181.out) | exact HB.out))) : w.heap.size ≤ gb182)); have n4_ := Aside0.mk ((by rw [hg]; exact (below_size (by repeat (first | (with_reducible first | exact HB.out | apply below_alloc | apply pw_below_drewN | apply below_drew1 | refine below_set ?_ GE181.out) | exact HB.out))) : w.heap.size ≤ gb182)); have n5_ := Aside0.mk ((by rw [hg]; exact Nat.ne_of_lt (blk_lt (g := gb181) (o := .cells #[.int .i64 a0_0, .int .i64 a0_1] 23 (0, 0)) (by (with_reducible repeat (first | refine blk_drewN ?_ _ | refine blk_drew ?_ | refine blk_alloc ?_ _)); exact BK181.out)) : gb181 ≠ gb182)); have n6_ := Aside0.mk ((by rw [hg]; exact Nat.ne_of_gt (blk_lt (g := gb181) (o := .cells #[.int .i64 a0_0, .int .i64 a0_1] 23 (0, 0)) (by (with_reducible repeat (first | refine blk_drewN ?_ _ | refine blk_drew ?_ | refine blk_alloc ?_ _)); exact BK181.out)) : gb182 ≠ gb181)); clear BK181; clear HB; have BK181 := n0_; have HB := n1_; have BK182 := n2_; have GW182 := n3_; have GE182 := n4_; have NB181_182 := n5_; have NB182_181 := n6_; clear n0_ n1_ n2_ n3_ n4_ n5_ n6_; clear hb hbox hg) | ((with_reducible refine gate_dst (N := 5) rfl ?_); refine box_event ?hg (N := 5) ?hd (cs := #[.int .i64 a2_0, .int .i64 a2_1]) (t := 23) ?hr ?_; (case hd => rfl); (case hg => rfl); (case hr => first | (go_simp; done) | (go_simp; rfl)); intro gb183 hg w93 hbox hb; have n0_ := Aside0.mk (blk_below (g := gb181) (o := .cells #[.int .i64 a0_0, .int .i64 a0_1] 23 (0, 0)) (by (with_reducible repeat (first | refine blk_drewN ?_ _ | refine blk_drew ?_ | refine blk_alloc ?_ _)); exact BK181.out) hb); have n1_ := Aside0.mk (blk_below (g := gb182) (o := .cells #[.int .i64 a1_0, .int .i64 a1_1] 23 (0, 0)) (by (with_reducible repeat (first | refine blk_drewN ?_ _ | refine blk_drew ?_ | refine blk_alloc ?_ _)); exact BK182.out) hb); have n2_ := Aside0.mk (below_step (by repeat (first | (with_reducible first | exact HB.out | apply below_alloc | apply pw_below_drewN | apply below_drew1 | refine below_set ?_ GE181.out | refine below_set ?_ GE182.out) | exact HB.out)) hb); have n3_ := Aside0.mk (hbox); have n4_ := Aside0.mk ((by rw [hg]; exact (below_size (by repeat (first | (with_reducible first | exact HB.out | apply below_alloc | apply pw_below_drewN | apply below_drew1 | refine below_set ?_ GE181.out | refine below_set ?_ GE182.out) | exact HB.out))) : w.heap.size ≤ gb183)); have n5_ := Aside0.mk ((by rw [hg]; exact (below_size (by repeat (first | (with_reducible first | exact HB.out | apply below_alloc | apply pw_below_drewN | apply below_drew1 | refine below_set ?_ GE181.out | refine below_set ?_ GE182.out) | exact HB.out))) : w.heap.size ≤ gb183)); have n6_ := Aside0.mk ((by rw [hg]; exact Nat.ne_of_lt (blk_lt (g := gb181) (o := .cells #[.int .i64 a0_0, .int .i64 a0_1] 23 (0, 0)) (by (with_reducible repeat (first | refine blk_drewN ?_ _ | refine blk_drew ?_ | refine blk_alloc ?_ _)); exact BK181.out)) : gb181 ≠ gb183)); have n7_ := Aside0.mk ((by rw [hg]; exact Nat.ne_of_gt (blk_lt (g := gb181) (o := .cells #[.int .i64 a0_0, .int .i64 a0_1] 23 (0, 0)) (by (with_reducible repeat (first | refine blk_drewN ?_ _ | refine blk_drew ?_ | refine blk_alloc ?_ _)); exact BK181.out)) : gb183 ≠ gb181)); have n8_ := Aside0.mk ((by rw [hg]; exact Nat.ne_of_lt (blk_lt (g := gb182) (o := .cells #[.int .i64 a1_0, .int .i64 a1_1] 23 (0, 0)) (by (with_reducible repeat (first | refine blk_drewN ?_ _ | refine blk_drew ?_ | refine blk_alloc ?_ _)); exact BK182.out)) : gb182 ≠ gb183)); have n9_ := Aside0.mk ((by rw [hg]; exact Nat.ne_of_gt (blk_lt (g := gb182) (o := .cells #[.int .i64 a1_0, .int .i64 a1_1] 23 (0, 0)) (by (with_reducible repeat (first | refine blk_drewN ?_ _ | refine blk_drew ?_ | refine blk_alloc ?_ _)); exact BK182.out)) : gb183 ≠ gb182)); clear BK181; clear BK182; clear HB; have BK181 := n0_; have BK182 := n1_; have HB := n2_; have BK183 := n3_; have GW183 := n4_; have GE183 := n5_; have NB181_183 := n6_; have NB183_181 := n7_; have NB182_183 := n8_; have NB183_182 := n9_; clear n0_ n1_ n2_ n3_ n4_ n5_ n6_ n7_ n8_ n9_; clear hb hbox hg; have hnb94 := NB181_182.out; have hnc94 := NB182_181.out; have hnb95 := NB181_183.out; have hnc95 := NB183_181.out; have hcz96_0 : w93.cell? ⟨gb181, 0, none⟩ = some (.int .i64 a0_0) := (blk_cell BK181.out 0).trans rfl; have hcz96_1 : w93.cell? ⟨gb181, 1, none⟩ = some (.int .i64 a0_1) := (blk_cell BK181.out 1).trans rfl; have hfz96_0 := blk_frozen BK181.out 0; have hfz96_1 := blk_frozen BK181.out 1) | ((with_reducible refine gate_callee (f := 21) rfl ?_); refine goesL_ (some 8) rfl rfl Try.func21 (by kernel_rfl) rfl #[.agg #[.int .i64 a0_0, .int .i64 a0_1]] rfl (by (try simp only [List.map_toArray, List.map_cons, List.map_nil]); first | done | rfl | (simp only [List.length_drop, List.length_take]; rfl)) ?_; (with_reducible refine (cobwebref04_Right.calls a0_0 a0_1 false _ A4.out).mono ?_); rintro e w97 ⟨rfl, hb⟩; refine ⟨_, rfl, ?_⟩; have n0_ := Aside0.mk (blk_below (g := gb181) (o := .cells #[.int .i64 a0_0, .int .i64 a0_1] 23 (0, 0)) (by (with_reducible repeat (first | refine blk_drewN ?_ _ | refine blk_drew ?_ | refine blk_alloc ?_ _)); exact BK181.out) hb); have n1_ := Aside0.mk (blk_below (g := gb182) (o := .cells #[.int .i64 a1_0, .int .i64 a1_1] 23 (0, 0)) (by (with_reducible repeat (first | refine blk_drewN ?_ _ | refine blk_drew ?_ | refine blk_alloc ?_ _)); exact BK182.out) hb); have n2_ := Aside0.mk (blk_below (g := gb183) (o := .cells #[.int .i64 a2_0, .int .i64 a2_1] 23 (0, 0)) (by (with_reducible repeat (first | refine blk_drewN ?_ _ | refine blk_drew ?_ | refine blk_alloc ?_ _)); exact BK183.out) hb); have n3_ := Aside0.mk (below_step (by repeat (first | (with_reducible first | exact HB.out | apply below_alloc | apply pw_below_drewN | apply below_drew1 | refine below_set ?_ GE181.out | refine below_set ?_ GE182.out | refine below_set ?_ GE183.out) | exact HB.out)) hb); clear BK181; clear BK182; clear BK183; clear HB; have BK181 := n0_; have BK182 := n1_; have BK183 := n2_; have HB := n3_; clear n0_ n1_ n2_ n3_; (try clear hb); (try clear hb2); (try clear hk); (try clear hi)))
    go_ret
    exact ⟨by first | rfl | (simp [errW_none, errW_some] <;> rfl) | (simp [*, errW_none, errW_some] <;> rfl), by repeat (first | (with_reducible first | exact HB.out | apply below_alloc | apply pw_below_drewN | apply below_drew1 | refine below_set ?_ GE181.out | refine below_set ?_ GE182.out | refine below_set ?_ GE183.out) | exact HB.out)⟩

-- NOT PRINTED: function 5 (cobweblaw04_PlaneOn)

/-! ### cobwebref11_Fills: function 30 -/
/-! ### input_Fills: function 32 -/
end Go.Proofs.Ytpfgjagpaddcpaa.X

-- Printed by the kit's print.py for this seat (all laws in one set), called by this session.
namespace Go.Proofs.Ytpfgjagpaddcpaa.X
open Go.RowKit Go.Proofs.YtpfgjagpaddcpaaW.PrintWords Go.Proofs.YtpfgjagpaddcpaaW.PrintLast Go.Proofs.YtpfgjagpaddcpaaW.PrintMore
attribute [local go_sem] max2_int min2_int max_two min_two max_three min_three max_four min_four
set_option linter.unusedVariables false
set_option linter.unusedSimpArgs false

-- NOT PRINTED: function 13 (cobweblaw11_InputChecks)

/-! ### cobwebref11_edges: function 66 -/
mutual
def cobwebref11_edges.l0 : Nat → List (List (S23)) → Int → List (S68) → Int → Option ((List (S68)))
  | 0, _, _, _, _ => none
  | k + 1, x0, x1, x5, x6 => if x6 < (x0.length : Int) then (if 0 ≤ x6 then (cobwebref11_edges.l1 k x0 x1 x5 x6 (rd_L2 x0 x6) 0) else (none)) else (some x5)
def cobwebref11_edges.l1 : Nat → List (List (S23)) → Int → List (S68) → Int → List (S23) → Int → Option ((List (S68)))
  | 0, _, _, _, _, _, _ => none
  | k + 1, x0, x1, x5, x6, x7, x8 => if x8 < (x7.length : Int) then (if 0 < (x7.length : Int) then (if (wrap64 (x8 + 1)) < (x7.length : Int) then (if 0 ≤ (wrap64 (x8 + 1)) then (if 0 ≤ x8 then (if x5.length < 3518437208883 then (cobwebref11_edges.l1 k x0 x1 (x5 ++ [(⟨(⟨(rd_T23 x7 x8).f0, (rd_T23 x7 x8).f1⟩ : S23), (⟨(rd_T23 x7 (wrap64 (x8 + 1))).f0, (rd_T23 x7 (wrap64 (x8 + 1))).f1⟩ : S23), x1⟩ : S68)]) x6 x7 (wrap64 (x8 + 1))) else (none)) else (none)) else (none)) else (if 0 ≤ x8 then (if x5.length < 3518437208883 then (cobwebref11_edges.l1 k x0 x1 (x5 ++ [(⟨(⟨(rd_T23 x7 x8).f0, (rd_T23 x7 x8).f1⟩ : S23), (⟨(rd_T23 x7 0).f0, (rd_T23 x7 0).f1⟩ : S23), x1⟩ : S68)]) x6 x7 (wrap64 (x8 + 1))) else (none)) else (none))) else (none)) else (cobwebref11_edges.l0 k x0 x1 x5 (wrap64 (x6 + 1)))
end
def cobwebref11_edges.f (k : Nat) (l0 : List (List (S23))) (a1 : Int) : Option ((List (S68))) := cobwebref11_edges.l0 k l0 a1 ([] : List (S68)) 0
def cobwebref11_edges.T12 : Bool × List (List Nat × List Nat) := (true, [([], []), ([], []), ([], []), ([1, 2], [1, 2]), ([3], [3]), ([], []), ([], []), ([4, 5, 6], [4, 5, 6]), ([7], [7]), ([0, 8], [0, 8]), ([9, 9, 0, 1, 2, 3, 4, 5, 6, 7, 8, 9], [0, 9])])
def cobwebref11_edges.B12 : List Nat := [0, 0, 0, 6, 14, 0, 0, 126, 254, 511, 1023]
theorem cobwebref11_edges.tab12 : rtab .any (opsOf Try.f66 12) = cobwebref11_edges.T12 := by kernel_rfl
theorem cobwebref11_edges.bits12 : waitsOk cobwebref11_edges.T12.2 cobwebref11_edges.B12 = true := by kernel_rfl
set_option maxHeartbeats 8000000 in
set_option maxRecDepth 100000 in
theorem cobwebref11_edges.calls (k : Nat) (A0 : Option Addr) (c0 : Nat) (l0 : List (List (S23))) (a1 : Int) (r : List (S68)) (w : World) (hr0 : Kd.C (Kd.slice 23 k23) w A0 l0.length l0) (hc0 : l0.length ≤ c0) (h : cobwebref11_edges.f k l0 a1 = some r) :
    Calls Try.prog 66 #[.slice A0 l0.length c0, .int .i64 a1] w fun e w' => ∃ v0_ : Value, e = .returned (v0_) ∧ Kd.R k68 68 w' w.heap.size (fun _ => True) v0_ r ∧ Below w.heap.size w w' := by
  have hu23 := Try.underlying23
  have hu68 := Try.underlying68
  have HR0 := Aside0.mk hr0
  have HC0 := Aside0.mk hc0
  clear hr0 hc0
  have HB := Aside0.mk (Below.refl w.heap.size w)
  have H : (cobwebref11_edges.l0 k l0 a1 ([] : List (S68)) 0) = some r := h
  clear h
  have H' := Aside0.mk H
  clear H
  go_enter Try.func66, Try.ntmps66
  go_wp2
  go_loopg [5, 6] k (fun kq v5 v6 w' => ∃ (x5_1 : List (S68)) (x6_1 : Int), v6 = .int .i64 x6_1 ∧ Aside0 (cobwebref11_edges.l0 kq l0 a1 x5_1 x6_1 = some r) ∧ Aside0 (kq ≤ k) ∧ Aside0 (Kd.R k68 68 w' w.heap.size (fun _ => True) v5 x5_1) ∧ Aside0 (Below w.heap.size w w'))
  case atStart => exact ⟨(([] : List (S68))), (0), (by first | rfl | (simp; done) | (simp [*]; done)), H', ⟨Nat.le_refl _⟩, ⟨by first | exact Kd.R_nil _ _ _ _ _ | exact Kd.N_nil _ _ _ _ _ | exact Kd.V_nil _ _ _ _ _ | exact Kd.Q_nil _ _ _ _ _ | exact Kd.S_nil _ _ _ _ _⟩, ⟨by repeat (first | (with_reducible first | exact HB.out | apply below_alloc | apply pw_below_drewN | apply below_drew1) | exact HB.out)⟩⟩
  case round =>
    clear H'
    try clear p2
    obtain ⟨x5_1, x6_1, rfl, HA, HK1, HO_5, HB⟩ := hrel
    cases gk with
    | zero => exact absurd HA.out (by simp [cobwebref11_edges.l0])
    | succ k1 =>
      have H := HA.out
      clear HA
      simp only [cobwebref11_edges.l0] at H
      by_cases c3 : x6_1 < (l0.length : Int)
      · rw [if_pos c3] at H
        have c3b0 : decide (x6_1 < (l0.length : Int)) = true := decide_eq_true c3
        clear c3
        by_cases c4 : 0 ≤ x6_1
        · rw [if_pos c4] at H
          have c4b0 : decide (0 ≤ x6_1) = true := decide_eq_true c4
          clear c4
          have H' := Aside0.mk H
          clear H
          have p266 : 0 ≤ (x6_1 : Int) := of_decide_eq_true (by first | (with_reducible assumption) | assumption)
          have q266 : x6_1 < (l0.length : Int) := of_decide_eq_true (by first | (with_reducible assumption) | assumption)
          obtain ⟨ad266, A266_0, c266_0, e266, hx266_0, hl266_0, hi266_0⟩ := at_L2 HR0.out x6_1 p266 q266
          cases e266
          replace hx266_0 := (HB.out.cell (World.block_lt_of_cell? w _ hx266_0)).trans hx266_0
          have HR266_0 := Aside0.mk hi266_0
          have HC266_0 := Aside0.mk hl266_0
          clear hi266_0 hl266_0
          replace p266 := eq_true p266
          replace q266 := eq_true q266
          go_wp2
          go_loopg [5, 8] k1 (fun kq v5 v8 w' => ∃ (x5_2 : List (S68)) (x8_2 : Int), v8 = .int .i64 x8_2 ∧ Aside0 (cobwebref11_edges.l1 kq l0 a1 x5_2 x6_1 (rd_L2 l0 x6_1) x8_2 = some r) ∧ Aside0 (kq ≤ k1) ∧ Aside0 (Kd.R k68 68 w' w.heap.size (fun _ => True) v5 x5_2) ∧ Aside0 (Below w.heap.size w w'))
          case atStart => exact ⟨(x5_1), (0), (by first | rfl | (simp; done) | (simp [*]; done)), H', ⟨Nat.le_refl _⟩, ⟨by (with_reducible repeat (first | apply Kd.R_alloc | apply Kd.R_drewN | apply Kd.R_drew)); exact HO_5.out⟩, ⟨by repeat (first | (with_reducible first | exact HB.out | apply below_alloc | apply pw_below_drewN | apply below_drew1) | exact HB.out)⟩⟩
          case round =>
            clear H'
            try clear c2
            try clear p2
            try clear q2
            try clear hx2
            try clear c3
            try clear c3b0
            try clear c4
            try clear c4b0
            try clear hx266_0
            try clear p2
            try clear p266
            try clear q266
            obtain ⟨x5_2, x8_2, rfl, HA, HK2, HO_5, HB⟩ := hrel
            cases gk with
            | zero => exact absurd HA.out (by simp [cobwebref11_edges.l1])
            | succ k2 =>
              have H := HA.out
              clear HA
              simp only [cobwebref11_edges.l1] at H
              by_cases c5 : x8_2 < ((rd_L2 l0 x6_1).length : Int)
              · rw [if_pos c5] at H
                have c5b0 : decide (x8_2 < ((rd_L2 l0 x6_1).length : Int)) = true := decide_eq_true c5
                clear c5
                by_cases c6 : 0 < ((rd_L2 l0 x6_1).length : Int)
                · rw [if_pos c6] at H
                  have c6b0 : decide (0 < ((rd_L2 l0 x6_1).length : Int)) = true := decide_eq_true c6
                  have c6b1 : decide (0 < (rd_L2 l0 x6_1).length) = true := decide_eq_true (by omega)
                  clear c6
                  by_cases c7 : (wrap64 (x8_2 + 1)) < ((rd_L2 l0 x6_1).length : Int)
                  · rw [if_pos c7] at H
                    have c7b0 : decide ((wrap64 (x8_2 + 1)) < ((rd_L2 l0 x6_1).length : Int)) = true := decide_eq_true c7
                    clear c7
                    obtain ⟨ji8, hji8⟩ : ∃ j_ : Int, (wrap64 (x8_2 + 1)) = j_ := ⟨_, rfl⟩
                    replace H : (if 0 ≤ (ji8) then (if 0 ≤ x8_2 then (if x5_2.length < 3518437208883 then (cobwebref11_edges.l1 k2 l0 a1 (x5_2 ++ [(⟨(⟨(rd_T23 (rd_L2 l0 x6_1) x8_2).f0, (rd_T23 (rd_L2 l0 x6_1) x8_2).f1⟩ : S23), (⟨(rd_T23 (rd_L2 l0 x6_1) (ji8)).f0, (rd_T23 (rd_L2 l0 x6_1) (ji8)).f1⟩ : S23), a1⟩ : S68)]) x6_1 (rd_L2 l0 x6_1) ji8) else (none)) else (none)) else (none)) = some r := by first | (rw [hji8] at H; exact H) | (simp only [hji8] at H ⊢; exact H)
                    (try rw [hji8] at c7b0)
                    have hji8w : (IntKind.i64.wrap (x8_2 + 1)) = ji8 := (i64_w _).trans hji8
                    by_cases c9 : 0 ≤ (ji8)
                    · rw [if_pos c9] at H
                      have c9b0 : decide (0 ≤ (ji8)) = true := decide_eq_true c9
                      clear c9
                      by_cases c10 : 0 ≤ x8_2
                      · rw [if_pos c10] at H
                        have c10b0 : decide (0 ≤ x8_2) = true := decide_eq_true c10
                        clear c10
                        by_cases c11 : x5_2.length < 3518437208883
                        · rw [if_pos c11] at H
                          have LMc11 := Aside0.mk c11
                          clear c11
                          obtain ⟨y271, hy271⟩ : ∃ y_ : List (S68), y_ = (x5_2 ++ [(⟨(⟨(rd_T23 (rd_L2 l0 x6_1) x8_2).f0, (rd_T23 (rd_L2 l0 x6_1) x8_2).f1⟩ : S23), (⟨(rd_T23 (rd_L2 l0 x6_1) (ji8)).f0, (rd_T23 (rd_L2 l0 x6_1) (ji8)).f1⟩ : S23), a1⟩ : S68)]) := ⟨_, rfl⟩
                          replace H : (cobwebref11_edges.l1 k2 l0 a1 y271 x6_1 (rd_L2 l0 x6_1) ji8) = some r := by first | (rw [hy271]; with_reducible exact H) | (have H2_ := (Option.bind_some _ _).symm.trans H; rw [hy271]; with_reducible exact H2_) | (have H2_ := (Option.bind_some _ _).symm.trans H; with_reducible exact H2_) | with_reducible exact H | (rw [hy271]; exact H) | exact H
                          have Ny271 := Aside0.mk hy271
                          clear hy271
                          have H' := Aside0.mk H
                          clear H
                          have p267 : 0 ≤ (0 : Int) := (by omega)
                          have q267 : 0 < ((rd_L2 l0 x6_1).length : Int) := of_decide_eq_true (by first | (with_reducible assumption) | assumption)
                          obtain ⟨ad267, e267, hx267_0, hx267_1⟩ := at_T23 HR266_0.out 0 p267 q267
                          cases e267
                          have qi267 : (0 < (rd_L2 l0 x6_1).length) = True := eq_true (by omega)
                          (try rw [show ((0 : Int)).toNat = 0 from rfl] at hx267_0)
                          (try rw [show 0 * 2 = 0 from rfl] at hx267_0)
                          (try rw [Addr.add_zero'] at hx267_0)
                          (try rw [show ((0 : Int)).toNat = 0 from rfl] at hx267_1)
                          (try rw [show 0 * 2 = 0 from rfl] at hx267_1)
                          (try rw [Addr.add_zero'] at hx267_1)
                          replace hx267_0 := (HB.out.cell (World.block_lt_of_cell? w _ hx267_0)).trans hx267_0
                          replace hx267_1 := (HB.out.cell (World.block_lt_of_cell? w _ hx267_1)).trans hx267_1
                          replace p267 := eq_true p267
                          replace q267 := eq_true q267
                          try go_wp2_with (first | ((with_reducible refine gate_dst (N := 9) rfl ?_); refine box_event ?hg (N := 9) ?hd (cs := #[.int .i64 0, .int .i64 0]) (t := 23) ?hr ?_; (case hd => rfl); (case hg => rfl); (case hr => first | (go_simp; done) | (go_simp; rfl)); intro gb268 hg w12 hbox hb; have n0_ := Aside0.mk (Kd.R_below (by (with_reducible repeat (first | apply Kd.R_alloc | apply Kd.R_drewN | apply Kd.R_drew)); exact HO_5.out) hb); have n1_ := Aside0.mk (below_step (by repeat (first | (with_reducible first | exact HB.out | apply below_alloc | apply pw_below_drewN | apply below_drew1) | exact HB.out)) hb); have n2_ := Aside0.mk (hbox); have n3_ := Aside0.mk ((by rw [hg]; exact (below_size (by repeat (first | (with_reducible first | exact HB.out | apply below_alloc | apply pw_below_drewN | apply below_drew1) | exact HB.out))) : w.heap.size ≤ gb268)); have n4_ := Aside0.mk ((by rw [hg]; exact (below_size (by repeat (first | (with_reducible first | exact HB.out | apply below_alloc | apply pw_below_drewN | apply below_drew1) | exact HB.out))) : w.heap.size ≤ gb268)); clear HO_5; clear HB; have HO_5 := n0_; have HB := n1_; have BK268 := n2_; have GW268 := n3_; have GE268 := n4_; clear n0_ n1_ n2_ n3_ n4_; clear hb hbox hg; have hcz13_0 : w12.cell? ⟨gb268, 0, none⟩ = some (.int .i64 0) := (blk_cell BK268.out 0).trans rfl; have hcz13_1 : w12.cell? ⟨gb268, 1, none⟩ = some (.int .i64 0) := (blk_cell BK268.out 1).trans rfl; have hfz13_0 := blk_frozen BK268.out 0; have hfz13_1 := blk_frozen BK268.out 1; have p269 : 0 ≤ ((ji8) : Int) := of_decide_eq_true (by first | (with_reducible assumption) | assumption); have q269 : (ji8) < ((rd_L2 l0 x6_1).length : Int) := of_decide_eq_true (by first | (with_reducible assumption) | assumption); obtain ⟨ad269, e269, hx269_0, hx269_1⟩ := at_T23 HR266_0.out (ji8) p269 q269; obtain rfl : ad267 = ad269 := (by injection e269); have hn269_0 : ad267.block ≠ gb268 := Nat.ne_of_lt (Nat.lt_of_lt_of_le (by have := World.block_lt_of_cell? _ _ hx269_0; first | rwa [add_block] at this | exact this) GW268.out); have hn269_1 : ad267.block ≠ gb268 := Nat.ne_of_lt (Nat.lt_of_lt_of_le (by have := World.block_lt_of_cell? _ _ hx269_0; first | rwa [add_block] at this | exact this) GW268.out); replace hx269_0 := (HB.out.cell (World.block_lt_of_cell? w _ hx269_0)).trans hx269_0; replace hx269_1 := (HB.out.cell (World.block_lt_of_cell? w _ hx269_1)).trans hx269_1; replace hx269_0 := (cell_far (p := ⟨gb268, 0, none⟩) (by first | (rw [add_block]; exact hn269_0) | (show (Addr.add _ _).block ≠ _; rw [add_block]; exact hn269_0) | exact hn269_0) (.int .i64 ((rd_T23 (rd_L2 l0 x6_1) 0).f0))).trans hx269_0; replace hx269_1 := (cell_far (p := ⟨gb268, 0, none⟩) (by first | (rw [add_block]; exact hn269_0) | (show (Addr.add _ _).block ≠ _; rw [add_block]; exact hn269_0) | exact hn269_0) (.int .i64 ((rd_T23 (rd_L2 l0 x6_1) 0).f0))).trans hx269_1; replace hx269_0 := (cell_far (p := ⟨gb268, 1, none⟩) (by first | (rw [add_block]; exact hn269_1) | (show (Addr.add _ _).block ≠ _; rw [add_block]; exact hn269_1) | exact hn269_1) (.int .i64 ((rd_T23 (rd_L2 l0 x6_1) 0).f1))).trans hx269_0; replace hx269_1 := (cell_far (p := ⟨gb268, 1, none⟩) (by first | (rw [add_block]; exact hn269_1) | (show (Addr.add _ _).block ≠ _; rw [add_block]; exact hn269_1) | exact hn269_1) (.int .i64 ((rd_T23 (rd_L2 l0 x6_1) 0).f1))).trans hx269_1; clear hn269_0; clear hn269_1; replace p269 := eq_true p269; replace q269 := eq_true q269))
                          have n0_ : Aside0 (Kd.R k68 68 ((((w12.setCell ⟨gb268, 0, none⟩ (.int .i64 ((rd_T23 (rd_L2 l0 x6_1) 0).f0))).setCell ⟨gb268, 1, none⟩ (.int .i64 ((rd_T23 (rd_L2 l0 x6_1) 0).f1))).setCell ⟨gb268, 0, none⟩ (.int .i64 ((rd_T23 (rd_L2 l0 x6_1) (ji8)).f0))).setCell ⟨gb268, 1, none⟩ (.int .i64 ((rd_T23 (rd_L2 l0 x6_1) (ji8)).f1))) w.heap.size (fun _ => True) u5 x5_2) := ⟨by (with_reducible repeat (first | apply Kd.R_alloc | apply Kd.R_drewN | apply Kd.R_drew)); exact Kd.R_mono (Kd.R_far (p := ⟨gb268, 1, none⟩) (Kd.R_far (p := ⟨gb268, 0, none⟩) (Kd.R_far (p := ⟨gb268, 1, none⟩) (Kd.R_far (p := ⟨gb268, 0, none⟩) (Kd.R_types HO_5.out BK268.out (by decide)) (fun _ hk => hk.2) (.int .i64 ((rd_T23 (rd_L2 l0 x6_1) 0).f0))) (fun _ hk => hk.2) (.int .i64 ((rd_T23 (rd_L2 l0 x6_1) 0).f1))) (fun _ hk => hk.2) (.int .i64 ((rd_T23 (rd_L2 l0 x6_1) (ji8)).f0))) (fun _ hk => hk.2) (.int .i64 ((rd_T23 (rd_L2 l0 x6_1) (ji8)).f1))) (fun _ hk => trivial)⟩
                          have n1_ : Aside0 (((((w12.setCell ⟨gb268, 0, none⟩ (.int .i64 ((rd_T23 (rd_L2 l0 x6_1) 0).f0))).setCell ⟨gb268, 1, none⟩ (.int .i64 ((rd_T23 (rd_L2 l0 x6_1) 0).f1))).setCell ⟨gb268, 0, none⟩ (.int .i64 ((rd_T23 (rd_L2 l0 x6_1) (ji8)).f0))).setCell ⟨gb268, 1, none⟩ (.int .i64 ((rd_T23 (rd_L2 l0 x6_1) (ji8)).f1))).heap[gb268]? = some (.cells #[.int .i64 ((rd_T23 (rd_L2 l0 x6_1) (ji8)).f0), .int .i64 ((rd_T23 (rd_L2 l0 x6_1) (ji8)).f1)] 23 (0, 0))) := ⟨by (with_reducible repeat (first | refine blk_drewN ?_ _ | refine blk_drew ?_ | refine blk_alloc ?_ _)); refine blk_put (cs := #[.int .i64 ((rd_T23 (rd_L2 l0 x6_1) (ji8)).f0), .int .i64 ((rd_T23 (rd_L2 l0 x6_1) 0).f1)]) ?_ 1 _ rfl; (with_reducible repeat (first | refine blk_drewN ?_ _ | refine blk_drew ?_ | refine blk_alloc ?_ _)); refine blk_put (cs := #[.int .i64 ((rd_T23 (rd_L2 l0 x6_1) 0).f0), .int .i64 ((rd_T23 (rd_L2 l0 x6_1) 0).f1)]) ?_ 0 _ rfl; (with_reducible repeat (first | refine blk_drewN ?_ _ | refine blk_drew ?_ | refine blk_alloc ?_ _)); refine blk_put (cs := #[.int .i64 ((rd_T23 (rd_L2 l0 x6_1) 0).f0), .int .i64 0]) ?_ 1 _ rfl; (with_reducible repeat (first | refine blk_drewN ?_ _ | refine blk_drew ?_ | refine blk_alloc ?_ _)); refine blk_put (cs := #[.int .i64 0, .int .i64 0]) ?_ 0 _ rfl; (with_reducible repeat (first | refine blk_drewN ?_ _ | refine blk_drew ?_ | refine blk_alloc ?_ _)); exact BK268.out⟩
                          have n2_ : Aside0 (Below w.heap.size w ((((w12.setCell ⟨gb268, 0, none⟩ (.int .i64 ((rd_T23 (rd_L2 l0 x6_1) 0).f0))).setCell ⟨gb268, 1, none⟩ (.int .i64 ((rd_T23 (rd_L2 l0 x6_1) 0).f1))).setCell ⟨gb268, 0, none⟩ (.int .i64 ((rd_T23 (rd_L2 l0 x6_1) (ji8)).f0))).setCell ⟨gb268, 1, none⟩ (.int .i64 ((rd_T23 (rd_L2 l0 x6_1) (ji8)).f1)))) := ⟨by repeat (first | (with_reducible first | exact HB.out | apply below_alloc | apply pw_below_drewN | apply below_drew1 | refine below_set ?_ GE268.out) | exact HB.out)⟩
                          (try clear HO_5)
                          (try clear BK268)
                          (try clear HB)
                          generalize ((((w12.setCell ⟨gb268, 0, none⟩ (.int .i64 ((rd_T23 (rd_L2 l0 x6_1) 0).f0))).setCell ⟨gb268, 1, none⟩ (.int .i64 ((rd_T23 (rd_L2 l0 x6_1) 0).f1))).setCell ⟨gb268, 0, none⟩ (.int .i64 ((rd_T23 (rd_L2 l0 x6_1) (ji8)).f0))).setCell ⟨gb268, 1, none⟩ (.int .i64 ((rd_T23 (rd_L2 l0 x6_1) (ji8)).f1))) = w14 at n0_ n1_ n2_ ⊢
                          have HO_5 := n0_
                          have BK268 := n1_
                          have HB := n2_
                          clear n0_ n1_ n2_
                          have n0_ := Aside0.mk (Kd.R_drew HO_5.out)
                          have n1_ := Aside0.mk (blk_drew BK268.out)
                          have n2_ := Aside0.mk (below_drew1 HB.out)
                          clear HO_5
                          clear BK268
                          clear HB
                          have HO_5 := n0_
                          have BK268 := n1_
                          have HB := n2_
                          clear n0_ n1_ n2_
                          have p270 : 0 ≤ (x8_2 : Int) := of_decide_eq_true (by first | (with_reducible assumption) | assumption)
                          have q270 : x8_2 < ((rd_L2 l0 x6_1).length : Int) := of_decide_eq_true (by first | (with_reducible assumption) | assumption)
                          obtain ⟨ad270, e270, hx270_0, hx270_1⟩ := at_T23 HR266_0.out x8_2 p270 q270
                          have hw270_1 := hx270_1
                          have hw270_0 := hx270_0
                          obtain rfl : ad267 = ad270 := (by injection e270)
                          replace hx270_0 := (HB.out.cell (World.block_lt_of_cell? w _ hx270_0)).trans hx270_0
                          replace hx270_1 := (HB.out.cell (World.block_lt_of_cell? w _ hx270_1)).trans hx270_1
                          replace p270 := eq_true p270
                          replace q270 := eq_true q270
                          refine start_ (n := 11) (S := fun w' => w'.cell? ⟨gb268, 0, none⟩ = some (.int .i64 ((rd_T23 (rd_L2 l0 x6_1) (ji8)).f0)) ∧ w'.cell? ⟨gb268, 1, none⟩ = some (.int .i64 ((rd_T23 (rd_L2 l0 x6_1) (ji8)).f1)) ∧ w'.cell? (ad267.add ((x8_2).toNat * 2)) = some (.int .i64 ((rd_T23 (rd_L2 l0 x6_1) x8_2).f0)) ∧ w'.cell? ⟨(ad267.add ((x8_2).toNat * 2)).block, (ad267.add ((x8_2).toNat * 2)).off + 1, none⟩ = some (.int .i64 ((rd_T23 (rd_L2 l0 x6_1) x8_2).f1))) (ds := []) #[false, false, false, false, false, false, false, false, false, false, false] (by kernel_rfl) rfl rfl ⟨(blk_cell BK268.out 0).trans rfl, (blk_cell BK268.out 1).trans rfl, ((HB.out.cell (World.block_lt_of_cell? w _ hw270_0)).trans hw270_0), ((HB.out.cell (World.block_lt_of_cell? w _ hw270_1)).trans hw270_1)⟩ (fun hHeld => ?_); refine with_tabW cobwebref11_edges.tab12 cobwebref11_edges.bits12 (fun HT_ HW_ => ?_)
                          generalize w14.drew = w15 at HO_5 BK268 HB hx270_0 hx270_1 hHeld ⊢
                          refine pure_ (i := 0) (N := some 39) (v := ?_) (a' := ?_) #[true, false, false, false, false, false, false, false, false, false, false] rfl rfl (any_of HT_.out (by kernel_rfl)) (fun _ _ _ h => h) (Or.inl ⟨by rfl, ?_⟩) ?_ ?_
                          rotate_left
                          · intro w'
                            go_simp
                            with_reducible rfl
                          rotate_left
                          · simp only [Act.put, List.setIfInBounds_toArray, List.set_cons_zero, List.set_cons_succ, i64_w, i32_w]
                            rfl
                          refine pure_ (i := 1) (N := some 40) (v := ?_) (a' := ?_) #[true, true, false, false, false, false, false, false, false, false, false] rfl rfl (any_of HT_.out (by kernel_rfl)) (fun _ _ _ h => h) (Or.inl ⟨by rfl, ?_⟩) ?_ ?_
                          rotate_left
                          · intro w'
                            go_simp
                            with_reducible rfl
                          rotate_left
                          · simp only [Act.put, List.setIfInBounds_toArray, List.set_cons_zero, List.set_cons_succ, i64_w, i32_w]
                            rfl
                          refine pure_ (i := 2) (N := some 41) (v := ?_) (a' := ?_) #[true, true, true, false, false, false, false, false, false, false, false] rfl rfl (any_of HT_.out (by kernel_rfl)) (fun _ _ _ h => h) (Or.inl ⟨by rfl, ?_⟩) ?_ ?_
                          rotate_left
                          · intro w'
                            go_simp
                            with_reducible rfl
                          rotate_left
                          · simp only [Act.put, List.setIfInBounds_toArray, List.set_cons_zero, List.set_cons_succ, i64_w, i32_w]
                            rfl
                          refine pure_ (i := 3) (N := some 42) (v := ?_) (a' := ?_) #[true, true, true, true, false, false, false, false, false, false, false] rfl rfl (any_of HT_.out (by kernel_rfl)) (fun _ _ _ h => h) (Or.inl ⟨by rfl, ?_⟩) ?_ ?_
                          rotate_left
                          · intro w'
                            go_simp
                            with_reducible rfl
                          rotate_left
                          · simp only [Act.put, List.setIfInBounds_toArray, List.set_cons_zero, List.set_cons_succ, i64_w, i32_w]
                            rfl
                          refine pure_ (i := 6) (N := some 45) (v := ?_) (a' := ?_) #[true, true, true, true, false, false, true, false, false, false, false] rfl rfl (any_of HT_.out (by kernel_rfl)) (fun _ _ _ h => h) (Or.inl ⟨by rfl, ?_⟩) ?_ ?_
                          rotate_left
                          · intro w'
                            go_simp
                            with_reducible rfl
                          rotate_left
                          · simp only [Act.put, List.setIfInBounds_toArray, List.set_cons_zero, List.set_cons_succ, i64_w, i32_w]
                            rfl
                          refine take_ (i := 4) (N := some 43) (v := ?_) (a' := ?_) #[true, true, true, true, true, false, true, false, false, false, false] rfl rfl (take_ofW HT_.out HW_.out (by kernel_rfl)) (fun _ _ _ h => h) (Or.inl ⟨by rfl, ?_⟩) hHeld ?_ ?_
                          rotate_left
                          · rintro w' ⟨s0, s1, s2, s3⟩
                            go_simp
                            with_reducible rfl
                          rotate_left
                          · simp only [Act.put, List.setIfInBounds_toArray, List.set_cons_zero, List.set_cons_succ, i64_w, i32_w]
                            rfl
                          refine take_ (i := 5) (N := some 44) (v := ?_) (a' := ?_) #[true, true, true, true, true, true, true, false, false, false, false] rfl rfl (take_ofW HT_.out HW_.out (by kernel_rfl)) (fun _ _ _ h => h) (Or.inl ⟨by rfl, ?_⟩) hHeld ?_ ?_
                          rotate_left
                          · rintro w' ⟨s0, s1, s2, s3⟩
                            go_simp
                            with_reducible rfl
                          rotate_left
                          · simp only [Act.put, List.setIfInBounds_toArray, List.set_cons_zero, List.set_cons_succ, i64_w, i32_w]
                            rfl
                          refine pure_ (i := 7) (N := some 46) (v := ?_) (a' := ?_) #[true, true, true, true, true, true, true, true, false, false, false] rfl rfl (any_of HT_.out (by kernel_rfl)) (fun _ _ _ h => h) (Or.inl ⟨by rfl, ?_⟩) ?_ ?_
                          rotate_left
                          · intro w'
                            go_simp
                            with_reducible rfl
                          rotate_left
                          · simp only [Act.put, List.setIfInBounds_toArray, List.set_cons_zero, List.set_cons_succ, i64_w, i32_w]
                            rfl
                          refine one_ (i := 8) (N := some 47) #[true, true, true, true, true, true, true, true, true, false, false] rfl rfl (one_of HT_.out (by kernel_rfl)) (by decide) (fun K hK => ?_)
                          refine value_ (w1 := ?_) (v := ?_) (by rfl) rfl ?_ ?_
                          rotate_left 2
                          · go_simp
                            constructor
                            · rfl
                            · rfl
                          refine hK.out _ _ ⟨(blk_cell (blk_alloc BK268.out _) 0).trans rfl, (blk_cell (blk_alloc BK268.out _) 1).trans rfl, (World.cell?_alloc_lt _ _ _ (World.block_lt_of_cell? _ _ (((HB.out.cell (World.block_lt_of_cell? w _ hw270_0)).trans hw270_0)))).trans (((HB.out.cell (World.block_lt_of_cell? w _ hw270_0)).trans hw270_0)), (World.cell?_alloc_lt _ _ _ (World.block_lt_of_cell? _ _ (((HB.out.cell (World.block_lt_of_cell? w _ hw270_1)).trans hw270_1)))).trans (((HB.out.cell (World.block_lt_of_cell? w _ hw270_1)).trans hw270_1))⟩ (fun hHeld => ?_)
                          clear hK K
                          refine norm_ (a' := ?_) ?_ ?_
                          rotate_left
                          · show Act.put _ (some 47) _ = _
                            simp only [Act.put, List.setIfInBounds_toArray, List.set_cons_zero, List.set_cons_succ, i64_w, i32_w]
                            rfl
                          refine one_ (i := 9) (N := some 48) #[true, true, true, true, true, true, true, true, true, true, false] rfl rfl (one_of HT_.out (by kernel_rfl)) (by decide) (fun K hK => ?_)
                          refine Kd.R_append_step k68 (w0 := w) w.heap.size (by rfl) (.tmp 39) (.tmp 47) 64 68 (.agg #[(.int .i64 0), (.int .i64 0), (.int .i64 0), (.int .i64 0), (.int .i64 0)]) 40 rfl Try.underlying64 info68 rfl (by decide) (by omega) u5 x5_2 (⟨(⟨(rd_T23 (rd_L2 l0 x6_1) x8_2).f0, (rd_T23 (rd_L2 l0 x6_1) x8_2).f1⟩ : S23), (⟨(rd_T23 (rd_L2 l0 x6_1) (ji8)).f0, (rd_T23 (rd_L2 l0 x6_1) (ji8)).f1⟩ : S23), a1⟩ : S68) [.int .i64 ((rd_T23 (rd_L2 l0 x6_1) x8_2).f0), .int .i64 ((rd_T23 (rd_L2 l0 x6_1) x8_2).f1), .int .i64 ((rd_T23 (rd_L2 l0 x6_1) (ji8)).f0), .int .i64 ((rd_T23 (rd_L2 l0 x6_1) (ji8)).f1), .int .i64 a1] (fun _ => True) (fun _ => False) rfl rfl ?aP (fun _ hk => hk.elim) ?aF ?aO ?aB ?aS ?aL ?_
                          (case aP => exact k68_mkM _ _ _ (⟨(⟨(rd_T23 (rd_L2 l0 x6_1) x8_2).f0, (rd_T23 (rd_L2 l0 x6_1) x8_2).f1⟩ : S23), (⟨(rd_T23 (rd_L2 l0 x6_1) (ji8)).f0, (rd_T23 (rd_L2 l0 x6_1) (ji8)).f1⟩ : S23), a1⟩ : S68))
                          (case aB => exact (by repeat (first | (with_reducible first | exact HB.out | apply below_alloc | apply pw_below_drewN | apply below_drew1 | refine below_set ?_ GE268.out) | exact HB.out)))
                          (case aF => exact (fun _ _ => trivial))
                          (case aO => exact (by (with_reducible repeat (first | apply Kd.R_alloc | apply Kd.R_drewN | apply Kd.R_drew)); exact HO_5.out))
                          (case aS => exact (below_size (by repeat (first | (with_reducible first | exact HB.out | apply below_alloc | apply pw_below_drewN | apply below_drew1 | refine below_set ?_ GE268.out) | exact HB.out))))
                          (case aL => have := LMc11.out; omega)
                          intro v272 w16 ho hb hg hat
                          rw [← Ny271.out] at ho
                          have n0_ := Aside0.mk (blk_grown (g := gb268) (o := .cells #[.int .i64 ((rd_T23 (rd_L2 l0 x6_1) (ji8)).f0), .int .i64 ((rd_T23 (rd_L2 l0 x6_1) (ji8)).f1)] 23 (0, 0)) (by (with_reducible repeat (first | refine blk_drewN ?_ _ | refine blk_drew ?_ | refine blk_alloc ?_ _)); exact BK268.out) hg (Kd.R_ne HO_5.out BK268.out (by decide)))
                          have n1_ := Aside0.mk (hb)
                          have n2_ := Aside0.mk (ho)
                          clear BK268
                          clear HB
                          clear HO_5
                          have BK268 := n0_
                          have HB := n1_
                          have HO273 := n2_
                          clear n0_ n1_ n2_
                          clear ho hb hg hat
                          refine hK.out _ _ ⟨(blk_cell BK268.out 0).trans rfl, (blk_cell BK268.out 1).trans rfl, ((HB.out.cell (World.block_lt_of_cell? w _ hw270_0)).trans hw270_0), ((HB.out.cell (World.block_lt_of_cell? w _ hw270_1)).trans hw270_1)⟩ (fun hHeld => ?_)
                          clear hK K
                          refine norm_ (a' := ?_) ?_ ?_
                          rotate_left
                          · show Act.put _ (some 48) _ = _
                            simp only [Act.put, List.setIfInBounds_toArray, List.set_cons_zero, List.set_cons_succ, i64_w, i32_w]
                            rfl
                          refine pure_ (i := 10) (N := some 5) (v := ?_) (a' := ?_) #[true, true, true, true, true, true, true, true, true, true, true] rfl rfl (any_of HT_.out (by kernel_rfl)) (fun _ _ _ h => h) (Or.inl ⟨by rfl, ?_⟩) ?_ ?_
                          rotate_left
                          · intro w'
                            go_simp
                            with_reducible rfl
                          rotate_left
                          · simp only [Act.put, List.setIfInBounds_toArray, List.set_cons_zero, List.set_cons_succ, i64_w, i32_w]
                            rfl
                          refine done_ (done_of HT_.out (by kernel_rfl)) ?_
                          try go_wp2
                          go_roundg k2
                          case measure => have := HK1.out; have := HK2.out; omega
                          case rel => exact ⟨(y271), (ji8), (by first | rfl | (simp; done) | (simp only [← hji8] <;> (first | rfl | simp)) | (simp [*]; done)), H', ⟨by have := HK1.out; have := HK2.out; omega⟩, ⟨by (with_reducible repeat (first | apply Kd.R_alloc | apply Kd.R_drewN | apply Kd.R_drew)); exact HO273.out⟩, ⟨by repeat (first | (with_reducible first | exact HB.out | apply below_alloc | apply pw_below_drewN | apply below_drew1 | refine below_set ?_ GE268.out) | exact HB.out)⟩⟩
                        · rw [if_neg c11] at H
                          exact absurd H (by simp)
                      · rw [if_neg c10] at H
                        exact absurd H (by simp)
                    · rw [if_neg c9] at H
                      exact absurd H (by simp)
                  · rw [if_neg c7] at H
                    have c7b0 : decide ((wrap64 (x8_2 + 1)) < ((rd_L2 l0 x6_1).length : Int)) = false := decide_eq_false c7
                    clear c7
                    by_cases c17 : 0 ≤ x8_2
                    · rw [if_pos c17] at H
                      have c17b0 : decide (0 ≤ x8_2) = true := decide_eq_true c17
                      clear c17
                      by_cases c18 : x5_2.length < 3518437208883
                      · rw [if_pos c18] at H
                        have LMc18 := Aside0.mk c18
                        clear c18
                        obtain ⟨y275, hy275⟩ : ∃ y_ : List (S68), y_ = (x5_2 ++ [(⟨(⟨(rd_T23 (rd_L2 l0 x6_1) x8_2).f0, (rd_T23 (rd_L2 l0 x6_1) x8_2).f1⟩ : S23), (⟨(rd_T23 (rd_L2 l0 x6_1) 0).f0, (rd_T23 (rd_L2 l0 x6_1) 0).f1⟩ : S23), a1⟩ : S68)]) := ⟨_, rfl⟩
                        replace H : (cobwebref11_edges.l1 k2 l0 a1 y275 x6_1 (rd_L2 l0 x6_1) (wrap64 (x8_2 + 1))) = some r := by first | (rw [hy275]; with_reducible exact H) | (have H2_ := (Option.bind_some _ _).symm.trans H; rw [hy275]; with_reducible exact H2_) | (have H2_ := (Option.bind_some _ _).symm.trans H; with_reducible exact H2_) | with_reducible exact H | (rw [hy275]; exact H) | exact H
                        have Ny275 := Aside0.mk hy275
                        clear hy275
                        have H' := Aside0.mk H
                        clear H
                        have p267 : 0 ≤ (0 : Int) := (by omega)
                        have q267 : 0 < ((rd_L2 l0 x6_1).length : Int) := of_decide_eq_true (by first | (with_reducible assumption) | assumption)
                        obtain ⟨ad267, e267, hx267_0, hx267_1⟩ := at_T23 HR266_0.out 0 p267 q267
                        cases e267
                        have qi267 : (0 < (rd_L2 l0 x6_1).length) = True := eq_true (by omega)
                        (try rw [show ((0 : Int)).toNat = 0 from rfl] at hx267_0)
                        (try rw [show 0 * 2 = 0 from rfl] at hx267_0)
                        (try rw [Addr.add_zero'] at hx267_0)
                        (try rw [show ((0 : Int)).toNat = 0 from rfl] at hx267_1)
                        (try rw [show 0 * 2 = 0 from rfl] at hx267_1)
                        (try rw [Addr.add_zero'] at hx267_1)
                        replace hx267_0 := (HB.out.cell (World.block_lt_of_cell? w _ hx267_0)).trans hx267_0
                        replace hx267_1 := (HB.out.cell (World.block_lt_of_cell? w _ hx267_1)).trans hx267_1
                        replace p267 := eq_true p267
                        replace q267 := eq_true q267
                        try go_wp2_with (first | ((with_reducible refine gate_dst (N := 9) rfl ?_); refine box_event ?hg (N := 9) ?hd (cs := #[.int .i64 0, .int .i64 0]) (t := 23) ?hr ?_; (case hd => rfl); (case hg => rfl); (case hr => first | (go_simp; done) | (go_simp; rfl)); intro gb268 hg w19 hbox hb; have n0_ := Aside0.mk (Kd.R_below (by (with_reducible repeat (first | apply Kd.R_alloc | apply Kd.R_drewN | apply Kd.R_drew)); exact HO_5.out) hb); have n1_ := Aside0.mk (below_step (by repeat (first | (with_reducible first | exact HB.out | apply below_alloc | apply pw_below_drewN | apply below_drew1) | exact HB.out)) hb); have n2_ := Aside0.mk (hbox); have n3_ := Aside0.mk ((by rw [hg]; exact (below_size (by repeat (first | (with_reducible first | exact HB.out | apply below_alloc | apply pw_below_drewN | apply below_drew1) | exact HB.out))) : w.heap.size ≤ gb268)); have n4_ := Aside0.mk ((by rw [hg]; exact (below_size (by repeat (first | (with_reducible first | exact HB.out | apply below_alloc | apply pw_below_drewN | apply below_drew1) | exact HB.out))) : w.heap.size ≤ gb268)); clear HO_5; clear HB; have HO_5 := n0_; have HB := n1_; have BK268 := n2_; have GW268 := n3_; have GE268 := n4_; clear n0_ n1_ n2_ n3_ n4_; clear hb hbox hg; have hcz20_0 : w19.cell? ⟨gb268, 0, none⟩ = some (.int .i64 0) := (blk_cell BK268.out 0).trans rfl; have hcz20_1 : w19.cell? ⟨gb268, 1, none⟩ = some (.int .i64 0) := (blk_cell BK268.out 1).trans rfl; have hfz20_0 := blk_frozen BK268.out 0; have hfz20_1 := blk_frozen BK268.out 1))
                        have n0_ : Aside0 (Kd.R k68 68 ((w19.setCell ⟨gb268, 0, none⟩ (.int .i64 ((rd_T23 (rd_L2 l0 x6_1) 0).f0))).setCell ⟨gb268, 1, none⟩ (.int .i64 ((rd_T23 (rd_L2 l0 x6_1) 0).f1))) w.heap.size (fun _ => True) u5 x5_2) := ⟨by (with_reducible repeat (first | apply Kd.R_alloc | apply Kd.R_drewN | apply Kd.R_drew)); exact Kd.R_mono (Kd.R_far (p := ⟨gb268, 1, none⟩) (Kd.R_far (p := ⟨gb268, 0, none⟩) (Kd.R_types HO_5.out BK268.out (by decide)) (fun _ hk => hk.2) (.int .i64 ((rd_T23 (rd_L2 l0 x6_1) 0).f0))) (fun _ hk => hk.2) (.int .i64 ((rd_T23 (rd_L2 l0 x6_1) 0).f1))) (fun _ hk => trivial)⟩
                        have n1_ : Aside0 (((w19.setCell ⟨gb268, 0, none⟩ (.int .i64 ((rd_T23 (rd_L2 l0 x6_1) 0).f0))).setCell ⟨gb268, 1, none⟩ (.int .i64 ((rd_T23 (rd_L2 l0 x6_1) 0).f1))).heap[gb268]? = some (.cells #[.int .i64 ((rd_T23 (rd_L2 l0 x6_1) 0).f0), .int .i64 ((rd_T23 (rd_L2 l0 x6_1) 0).f1)] 23 (0, 0))) := ⟨by (with_reducible repeat (first | refine blk_drewN ?_ _ | refine blk_drew ?_ | refine blk_alloc ?_ _)); refine blk_put (cs := #[.int .i64 ((rd_T23 (rd_L2 l0 x6_1) 0).f0), .int .i64 0]) ?_ 1 _ rfl; (with_reducible repeat (first | refine blk_drewN ?_ _ | refine blk_drew ?_ | refine blk_alloc ?_ _)); refine blk_put (cs := #[.int .i64 0, .int .i64 0]) ?_ 0 _ rfl; (with_reducible repeat (first | refine blk_drewN ?_ _ | refine blk_drew ?_ | refine blk_alloc ?_ _)); exact BK268.out⟩
                        have n2_ : Aside0 (Below w.heap.size w ((w19.setCell ⟨gb268, 0, none⟩ (.int .i64 ((rd_T23 (rd_L2 l0 x6_1) 0).f0))).setCell ⟨gb268, 1, none⟩ (.int .i64 ((rd_T23 (rd_L2 l0 x6_1) 0).f1)))) := ⟨by repeat (first | (with_reducible first | exact HB.out | apply below_alloc | apply pw_below_drewN | apply below_drew1 | refine below_set ?_ GE268.out) | exact HB.out)⟩
                        (try clear HO_5)
                        (try clear BK268)
                        (try clear HB)
                        generalize ((w19.setCell ⟨gb268, 0, none⟩ (.int .i64 ((rd_T23 (rd_L2 l0 x6_1) 0).f0))).setCell ⟨gb268, 1, none⟩ (.int .i64 ((rd_T23 (rd_L2 l0 x6_1) 0).f1))) = w21 at n0_ n1_ n2_ ⊢
                        have HO_5 := n0_
                        have BK268 := n1_
                        have HB := n2_
                        clear n0_ n1_ n2_
                        have n0_ := Aside0.mk (Kd.R_drew HO_5.out)
                        have n1_ := Aside0.mk (blk_drew BK268.out)
                        have n2_ := Aside0.mk (below_drew1 HB.out)
                        clear HO_5
                        clear BK268
                        clear HB
                        have HO_5 := n0_
                        have BK268 := n1_
                        have HB := n2_
                        clear n0_ n1_ n2_
                        have p274 : 0 ≤ (x8_2 : Int) := of_decide_eq_true (by first | (with_reducible assumption) | assumption)
                        have q274 : x8_2 < ((rd_L2 l0 x6_1).length : Int) := of_decide_eq_true (by first | (with_reducible assumption) | assumption)
                        obtain ⟨ad274, e274, hx274_0, hx274_1⟩ := at_T23 HR266_0.out x8_2 p274 q274
                        have hw274_1 := hx274_1
                        have hw274_0 := hx274_0
                        obtain rfl : ad267 = ad274 := (by injection e274)
                        replace hx274_0 := (HB.out.cell (World.block_lt_of_cell? w _ hx274_0)).trans hx274_0
                        replace hx274_1 := (HB.out.cell (World.block_lt_of_cell? w _ hx274_1)).trans hx274_1
                        replace p274 := eq_true p274
                        replace q274 := eq_true q274
                        refine start_ (n := 11) (S := fun w' => w'.cell? ⟨gb268, 0, none⟩ = some (.int .i64 ((rd_T23 (rd_L2 l0 x6_1) 0).f0)) ∧ w'.cell? ⟨gb268, 1, none⟩ = some (.int .i64 ((rd_T23 (rd_L2 l0 x6_1) 0).f1)) ∧ w'.cell? (ad267.add ((x8_2).toNat * 2)) = some (.int .i64 ((rd_T23 (rd_L2 l0 x6_1) x8_2).f0)) ∧ w'.cell? ⟨(ad267.add ((x8_2).toNat * 2)).block, (ad267.add ((x8_2).toNat * 2)).off + 1, none⟩ = some (.int .i64 ((rd_T23 (rd_L2 l0 x6_1) x8_2).f1))) (ds := []) #[false, false, false, false, false, false, false, false, false, false, false] (by kernel_rfl) rfl rfl ⟨(blk_cell BK268.out 0).trans rfl, (blk_cell BK268.out 1).trans rfl, ((HB.out.cell (World.block_lt_of_cell? w _ hw274_0)).trans hw274_0), ((HB.out.cell (World.block_lt_of_cell? w _ hw274_1)).trans hw274_1)⟩ (fun hHeld => ?_); refine with_tabW cobwebref11_edges.tab12 cobwebref11_edges.bits12 (fun HT_ HW_ => ?_)
                        generalize w21.drew = w22 at HO_5 BK268 HB hx274_0 hx274_1 hHeld ⊢
                        refine pure_ (i := 0) (N := some 39) (v := ?_) (a' := ?_) #[true, false, false, false, false, false, false, false, false, false, false] rfl rfl (any_of HT_.out (by kernel_rfl)) (fun _ _ _ h => h) (Or.inl ⟨by rfl, ?_⟩) ?_ ?_
                        rotate_left
                        · intro w'
                          go_simp
                          with_reducible rfl
                        rotate_left
                        · simp only [Act.put, List.setIfInBounds_toArray, List.set_cons_zero, List.set_cons_succ, i64_w, i32_w]
                          rfl
                        refine pure_ (i := 1) (N := some 40) (v := ?_) (a' := ?_) #[true, true, false, false, false, false, false, false, false, false, false] rfl rfl (any_of HT_.out (by kernel_rfl)) (fun _ _ _ h => h) (Or.inl ⟨by rfl, ?_⟩) ?_ ?_
                        rotate_left
                        · intro w'
                          go_simp
                          with_reducible rfl
                        rotate_left
                        · simp only [Act.put, List.setIfInBounds_toArray, List.set_cons_zero, List.set_cons_succ, i64_w, i32_w]
                          rfl
                        refine pure_ (i := 2) (N := some 41) (v := ?_) (a' := ?_) #[true, true, true, false, false, false, false, false, false, false, false] rfl rfl (any_of HT_.out (by kernel_rfl)) (fun _ _ _ h => h) (Or.inl ⟨by rfl, ?_⟩) ?_ ?_
                        rotate_left
                        · intro w'
                          go_simp
                          with_reducible rfl
                        rotate_left
                        · simp only [Act.put, List.setIfInBounds_toArray, List.set_cons_zero, List.set_cons_succ, i64_w, i32_w]
                          rfl
                        refine pure_ (i := 3) (N := some 42) (v := ?_) (a' := ?_) #[true, true, true, true, false, false, false, false, false, false, false] rfl rfl (any_of HT_.out (by kernel_rfl)) (fun _ _ _ h => h) (Or.inl ⟨by rfl, ?_⟩) ?_ ?_
                        rotate_left
                        · intro w'
                          go_simp
                          with_reducible rfl
                        rotate_left
                        · simp only [Act.put, List.setIfInBounds_toArray, List.set_cons_zero, List.set_cons_succ, i64_w, i32_w]
                          rfl
                        refine pure_ (i := 6) (N := some 45) (v := ?_) (a' := ?_) #[true, true, true, true, false, false, true, false, false, false, false] rfl rfl (any_of HT_.out (by kernel_rfl)) (fun _ _ _ h => h) (Or.inl ⟨by rfl, ?_⟩) ?_ ?_
                        rotate_left
                        · intro w'
                          go_simp
                          with_reducible rfl
                        rotate_left
                        · simp only [Act.put, List.setIfInBounds_toArray, List.set_cons_zero, List.set_cons_succ, i64_w, i32_w]
                          rfl
                        refine take_ (i := 4) (N := some 43) (v := ?_) (a' := ?_) #[true, true, true, true, true, false, true, false, false, false, false] rfl rfl (take_ofW HT_.out HW_.out (by kernel_rfl)) (fun _ _ _ h => h) (Or.inl ⟨by rfl, ?_⟩) hHeld ?_ ?_
                        rotate_left
                        · rintro w' ⟨s0, s1, s2, s3⟩
                          go_simp
                          with_reducible rfl
                        rotate_left
                        · simp only [Act.put, List.setIfInBounds_toArray, List.set_cons_zero, List.set_cons_succ, i64_w, i32_w]
                          rfl
                        refine take_ (i := 5) (N := some 44) (v := ?_) (a' := ?_) #[true, true, true, true, true, true, true, false, false, false, false] rfl rfl (take_ofW HT_.out HW_.out (by kernel_rfl)) (fun _ _ _ h => h) (Or.inl ⟨by rfl, ?_⟩) hHeld ?_ ?_
                        rotate_left
                        · rintro w' ⟨s0, s1, s2, s3⟩
                          go_simp
                          with_reducible rfl
                        rotate_left
                        · simp only [Act.put, List.setIfInBounds_toArray, List.set_cons_zero, List.set_cons_succ, i64_w, i32_w]
                          rfl
                        refine pure_ (i := 7) (N := some 46) (v := ?_) (a' := ?_) #[true, true, true, true, true, true, true, true, false, false, false] rfl rfl (any_of HT_.out (by kernel_rfl)) (fun _ _ _ h => h) (Or.inl ⟨by rfl, ?_⟩) ?_ ?_
                        rotate_left
                        · intro w'
                          go_simp
                          with_reducible rfl
                        rotate_left
                        · simp only [Act.put, List.setIfInBounds_toArray, List.set_cons_zero, List.set_cons_succ, i64_w, i32_w]
                          rfl
                        refine one_ (i := 8) (N := some 47) #[true, true, true, true, true, true, true, true, true, false, false] rfl rfl (one_of HT_.out (by kernel_rfl)) (by decide) (fun K hK => ?_)
                        refine value_ (w1 := ?_) (v := ?_) (by rfl) rfl ?_ ?_
                        rotate_left 2
                        · go_simp
                          constructor
                          · rfl
                          · rfl
                        refine hK.out _ _ ⟨(blk_cell (blk_alloc BK268.out _) 0).trans rfl, (blk_cell (blk_alloc BK268.out _) 1).trans rfl, (World.cell?_alloc_lt _ _ _ (World.block_lt_of_cell? _ _ (((HB.out.cell (World.block_lt_of_cell? w _ hw274_0)).trans hw274_0)))).trans (((HB.out.cell (World.block_lt_of_cell? w _ hw274_0)).trans hw274_0)), (World.cell?_alloc_lt _ _ _ (World.block_lt_of_cell? _ _ (((HB.out.cell (World.block_lt_of_cell? w _ hw274_1)).trans hw274_1)))).trans (((HB.out.cell (World.block_lt_of_cell? w _ hw274_1)).trans hw274_1))⟩ (fun hHeld => ?_)
                        clear hK K
                        refine norm_ (a' := ?_) ?_ ?_
                        rotate_left
                        · show Act.put _ (some 47) _ = _
                          simp only [Act.put, List.setIfInBounds_toArray, List.set_cons_zero, List.set_cons_succ, i64_w, i32_w]
                          rfl
                        refine one_ (i := 9) (N := some 48) #[true, true, true, true, true, true, true, true, true, true, false] rfl rfl (one_of HT_.out (by kernel_rfl)) (by decide) (fun K hK => ?_)
                        refine Kd.R_append_step k68 (w0 := w) w.heap.size (by rfl) (.tmp 39) (.tmp 47) 64 68 (.agg #[(.int .i64 0), (.int .i64 0), (.int .i64 0), (.int .i64 0), (.int .i64 0)]) 40 rfl Try.underlying64 info68 rfl (by decide) (by omega) u5 x5_2 (⟨(⟨(rd_T23 (rd_L2 l0 x6_1) x8_2).f0, (rd_T23 (rd_L2 l0 x6_1) x8_2).f1⟩ : S23), (⟨(rd_T23 (rd_L2 l0 x6_1) 0).f0, (rd_T23 (rd_L2 l0 x6_1) 0).f1⟩ : S23), a1⟩ : S68) [.int .i64 ((rd_T23 (rd_L2 l0 x6_1) x8_2).f0), .int .i64 ((rd_T23 (rd_L2 l0 x6_1) x8_2).f1), .int .i64 ((rd_T23 (rd_L2 l0 x6_1) 0).f0), .int .i64 ((rd_T23 (rd_L2 l0 x6_1) 0).f1), .int .i64 a1] (fun _ => True) (fun _ => False) rfl rfl ?aP (fun _ hk => hk.elim) ?aF ?aO ?aB ?aS ?aL ?_
                        (case aP => exact k68_mkM _ _ _ (⟨(⟨(rd_T23 (rd_L2 l0 x6_1) x8_2).f0, (rd_T23 (rd_L2 l0 x6_1) x8_2).f1⟩ : S23), (⟨(rd_T23 (rd_L2 l0 x6_1) 0).f0, (rd_T23 (rd_L2 l0 x6_1) 0).f1⟩ : S23), a1⟩ : S68))
                        (case aB => exact (by repeat (first | (with_reducible first | exact HB.out | apply below_alloc | apply pw_below_drewN | apply below_drew1 | refine below_set ?_ GE268.out) | exact HB.out)))
                        (case aF => exact (fun _ _ => trivial))
                        (case aO => exact (by (with_reducible repeat (first | apply Kd.R_alloc | apply Kd.R_drewN | apply Kd.R_drew)); exact HO_5.out))
                        (case aS => exact (below_size (by repeat (first | (with_reducible first | exact HB.out | apply below_alloc | apply pw_below_drewN | apply below_drew1 | refine below_set ?_ GE268.out) | exact HB.out))))
                        (case aL => have := LMc18.out; omega)
                        intro v276 w23 ho hb hg hat
                        rw [← Ny275.out] at ho
                        have n0_ := Aside0.mk (blk_grown (g := gb268) (o := .cells #[.int .i64 ((rd_T23 (rd_L2 l0 x6_1) 0).f0), .int .i64 ((rd_T23 (rd_L2 l0 x6_1) 0).f1)] 23 (0, 0)) (by (with_reducible repeat (first | refine blk_drewN ?_ _ | refine blk_drew ?_ | refine blk_alloc ?_ _)); exact BK268.out) hg (Kd.R_ne HO_5.out BK268.out (by decide)))
                        have n1_ := Aside0.mk (hb)
                        have n2_ := Aside0.mk (ho)
                        clear BK268
                        clear HB
                        clear HO_5
                        have BK268 := n0_
                        have HB := n1_
                        have HO277 := n2_
                        clear n0_ n1_ n2_
                        clear ho hb hg hat
                        refine hK.out _ _ ⟨(blk_cell BK268.out 0).trans rfl, (blk_cell BK268.out 1).trans rfl, ((HB.out.cell (World.block_lt_of_cell? w _ hw274_0)).trans hw274_0), ((HB.out.cell (World.block_lt_of_cell? w _ hw274_1)).trans hw274_1)⟩ (fun hHeld => ?_)
                        clear hK K
                        refine norm_ (a' := ?_) ?_ ?_
                        rotate_left
                        · show Act.put _ (some 48) _ = _
                          simp only [Act.put, List.setIfInBounds_toArray, List.set_cons_zero, List.set_cons_succ, i64_w, i32_w]
                          rfl
                        refine pure_ (i := 10) (N := some 5) (v := ?_) (a' := ?_) #[true, true, true, true, true, true, true, true, true, true, true] rfl rfl (any_of HT_.out (by kernel_rfl)) (fun _ _ _ h => h) (Or.inl ⟨by rfl, ?_⟩) ?_ ?_
                        rotate_left
                        · intro w'
                          go_simp
                          with_reducible rfl
                        rotate_left
                        · simp only [Act.put, List.setIfInBounds_toArray, List.set_cons_zero, List.set_cons_succ, i64_w, i32_w]
                          rfl
                        refine done_ (done_of HT_.out (by kernel_rfl)) ?_
                        try go_wp2
                        go_roundg k2
                        case measure => have := HK1.out; have := HK2.out; omega
                        case rel => exact ⟨(y275), (wrap64 (x8_2 + 1)), (by first | rfl | (simp; done) | (simp [*]; done)), H', ⟨by have := HK1.out; have := HK2.out; omega⟩, ⟨by (with_reducible repeat (first | apply Kd.R_alloc | apply Kd.R_drewN | apply Kd.R_drew)); exact HO277.out⟩, ⟨by repeat (first | (with_reducible first | exact HB.out | apply below_alloc | apply pw_below_drewN | apply below_drew1 | refine below_set ?_ GE268.out) | exact HB.out)⟩⟩
                      · rw [if_neg c18] at H
                        exact absurd H (by simp)
                    · rw [if_neg c17] at H
                      exact absurd H (by simp)
                · rw [if_neg c6] at H
                  exact absurd H (by simp)
              · rw [if_neg c5] at H
                have c5b0 : decide (x8_2 < ((rd_L2 l0 x6_1).length : Int)) = false := decide_eq_false c5
                clear c5
                have H' := Aside0.mk H
                clear H
                go_wp2
                go_roundg k2
                case measure => have := HK1.out; have := HK2.out; omega
                case rel => exact ⟨(x5_2), (wrap64 (x6_1 + 1)), (by first | rfl | (simp; done) | (simp [*]; done)), H', ⟨by have := HK1.out; have := HK2.out; omega⟩, ⟨by (with_reducible repeat (first | apply Kd.R_alloc | apply Kd.R_drewN | apply Kd.R_drew)); exact HO_5.out⟩, ⟨by repeat (first | (with_reducible first | exact HB.out | apply below_alloc | apply pw_below_drewN | apply below_drew1) | exact HB.out)⟩⟩
        · rw [if_neg c4] at H
          exact absurd H (by simp)
      · rw [if_neg c3] at H
        have c3b0 : decide (x6_1 < (l0.length : Int)) = false := decide_eq_false c3
        clear c3
        obtain rfl := Option.some.inj H
        go_wp2
        go_ret
        exact ⟨_, by first | rfl | (simp [errW_none, errW_some] <;> rfl) | (simp [*, errW_none, errW_some] <;> rfl), by (with_reducible repeat (first | apply Kd.R_alloc | apply Kd.R_drewN | apply Kd.R_drew)); exact HO_5.out, by repeat (first | (with_reducible first | exact HB.out | apply below_alloc | apply pw_below_drewN | apply below_drew1) | exact HB.out)⟩

/-! ### cobwebref11_Edges: function 48 -/
-- NOT PRINTED: function 14 (cobweblaw11_InputEdges)

end Go.Proofs.Ytpfgjagpaddcpaa.X

-- Printed by the kit's print.py for this seat (all laws in one set), called by this session.
namespace Go.Proofs.Ytpfgjagpaddcpaa.X
open Go.RowKit Go.Proofs.YtpfgjagpaddcpaaW.PrintWords Go.Proofs.YtpfgjagpaddcpaaW.PrintLast Go.Proofs.YtpfgjagpaddcpaaW.PrintMore
attribute [local go_sem] max2_int min2_int max_two min_two max_three min_three max_four min_four
set_option linter.unusedVariables false
set_option linter.unusedSimpArgs false

-- NOT PRINTED: function 15 (cobweblaw11_InputSame)

/-! ### cobwebref11_twice: function 69 -/
def cobwebref11_twice.f (a0_0 : Int) (a0_1 : Int) : Option (Int × Int) := some (wrap64 (2 * a0_0), wrap64 (2 * a0_1))
set_option maxHeartbeats 8000000 in
set_option maxRecDepth 100000 in
theorem cobwebref11_twice.calls (a0_0 : Int) (a0_1 : Int) (r1 : Int) (r2 : Int) (w : World) (h : cobwebref11_twice.f a0_0 a0_1 = some (r1, r2)) :
    Calls Try.prog 69 #[.agg #[.int .i64 a0_0, .int .i64 a0_1]] w fun e w' => e = .returned (.agg #[.int .i64 r1, .int .i64 r2]) ∧ Below w.heap.size w w' := by
  have hu23 := Try.underlying23
  have HB := Aside0.mk (Below.refl w.heap.size w)
  have H : (some (wrap64 (2 * a0_0), wrap64 (2 * a0_1))) = some (r1, r2) := h
  clear h
  simp only [Option.some.injEq, Prod.mk.injEq] at H
  obtain ⟨rfl, rfl⟩ := H
  go_enter Try.func69, Try.ntmps69
  go_wp2_with (first | ((with_reducible refine gate_dst (N := 1) rfl ?_); refine box_event ?hg (N := 1) ?hd (cs := #[.int .i64 a0_0, .int .i64 a0_1]) (t := 23) ?hr ?_; (case hd => rfl); (case hg => rfl); (case hr => first | (go_simp; done) | (go_simp; rfl)); intro gb318 hg w2 hbox hb; have n0_ := Aside0.mk (below_step (by repeat (first | (with_reducible first | exact HB.out | apply below_alloc | apply pw_below_drewN | apply below_drew1) | exact HB.out)) hb); have n1_ := Aside0.mk (hbox); have n2_ := Aside0.mk ((by rw [hg]; exact (below_size (by repeat (first | (with_reducible first | exact HB.out | apply below_alloc | apply pw_below_drewN | apply below_drew1) | exact HB.out))) : w.heap.size ≤ gb318)); have n3_ := Aside0.mk ((by rw [hg]; exact (below_size (by repeat (first | (with_reducible first | exact HB.out | apply below_alloc | apply pw_below_drewN | apply below_drew1) | exact HB.out))) : w.heap.size ≤ gb318)); clear HB; have HB := n0_; have BK318 := n1_; have GW318 := n2_; have GE318 := n3_; clear n0_ n1_ n2_ n3_; clear hb hbox hg) | ((with_reducible refine gate_dst (N := 2) rfl ?_); refine box_event ?hg (N := 2) ?hd (cs := #[.int .i64 0, .int .i64 0]) (t := 23) ?hr ?_; (case hd => rfl); (case hg => rfl); (case hr => first | (go_simp; done) | (go_simp; rfl)); intro gb319 hg w3 hbox hb; have n0_ := Aside0.mk (blk_below (g := gb318) (o := .cells #[.int .i64 a0_0, .int .i64 a0_1] 23 (0, 0)) (by (with_reducible repeat (first | refine blk_drewN ?_ _ | refine blk_drew ?_ | refine blk_alloc ?_ _)); exact BK318.out) hb); have n1_ := Aside0.mk (below_step (by repeat (first | (with_reducible first | exact HB.out | apply below_alloc | apply pw_below_drewN | apply below_drew1 | refine below_set ?_ GE318.out) | exact HB.out)) hb); have n2_ := Aside0.mk (hbox); have n3_ := Aside0.mk ((by rw [hg]; exact (below_size (by repeat (first | (with_reducible first | exact HB.out | apply below_alloc | apply pw_below_drewN | apply below_drew1 | refine below_set ?_ GE318.out) | exact HB.out))) : w.heap.size ≤ gb319)); have n4_ := Aside0.mk ((by rw [hg]; exact (below_size (by repeat (first | (with_reducible first | exact HB.out | apply below_alloc | apply pw_below_drewN | apply below_drew1 | refine below_set ?_ GE318.out) | exact HB.out))) : w.heap.size ≤ gb319)); have n5_ := Aside0.mk ((by rw [hg]; exact Nat.ne_of_lt (blk_lt (g := gb318) (o := .cells #[.int .i64 a0_0, .int .i64 a0_1] 23 (0, 0)) (by (with_reducible repeat (first | refine blk_drewN ?_ _ | refine blk_drew ?_ | refine blk_alloc ?_ _)); exact BK318.out)) : gb318 ≠ gb319)); have n6_ := Aside0.mk ((by rw [hg]; exact Nat.ne_of_gt (blk_lt (g := gb318) (o := .cells #[.int .i64 a0_0, .int .i64 a0_1] 23 (0, 0)) (by (with_reducible repeat (first | refine blk_drewN ?_ _ | refine blk_drew ?_ | refine blk_alloc ?_ _)); exact BK318.out)) : gb319 ≠ gb318)); clear BK318; clear HB; have BK318 := n0_; have HB := n1_; have BK319 := n2_; have GW319 := n3_; have GE319 := n4_; have NB318_319 := n5_; have NB319_318 := n6_; clear n0_ n1_ n2_ n3_ n4_ n5_ n6_; clear hb hbox hg; have hnb4 := NB318_319.out; have hnc4 := NB319_318.out; have hcz5_0 : w3.cell? ⟨gb318, 0, none⟩ = some (.int .i64 a0_0) := (blk_cell BK318.out 0).trans rfl; have hcz5_1 : w3.cell? ⟨gb318, 1, none⟩ = some (.int .i64 a0_1) := (blk_cell BK318.out 1).trans rfl; have hfz5_0 := blk_frozen BK318.out 0; have hfz5_1 := blk_frozen BK318.out 1; have hcz6_0 : w3.cell? ⟨gb319, 0, none⟩ = some (.int .i64 0) := (blk_cell BK319.out 0).trans rfl; have hcz6_1 : w3.cell? ⟨gb319, 1, none⟩ = some (.int .i64 0) := (blk_cell BK319.out 1).trans rfl; have hfz6_0 := blk_frozen BK319.out 0; have hfz6_1 := blk_frozen BK319.out 1))
  refine bodyPost_ret (results_cell_row rfl _ _ gb319 23 #[.int .i64 (wrap64 (2 * a0_0)), .int .i64 (wrap64 (2 * a0_1))] (0, 0) _ rfl (by (with_reducible repeat (first | refine blk_drewN ?_ _ | refine blk_drew ?_ | refine blk_alloc ?_ _)); refine blk_put (cs := #[.int .i64 (wrap64 (2 * a0_0)), .int .i64 0]) ?_ 1 _ rfl; (with_reducible repeat (first | refine blk_drewN ?_ _ | refine blk_drew ?_ | refine blk_alloc ?_ _)); refine blk_put (cs := #[.int .i64 0, .int .i64 0]) ?_ 0 _ rfl; (with_reducible repeat (first | refine blk_drewN ?_ _ | refine blk_drew ?_ | refine blk_alloc ?_ _)); exact BK319.out) Try.underlying23 rfl (by kernel_rfl)) rfl ?_
  exact ⟨by first | rfl | (simp [errW_none, errW_some] <;> rfl) | (simp [*, errW_none, errW_some] <;> rfl), by repeat (first | (with_reducible first | exact HB.out | apply below_alloc | apply pw_below_drewN | apply below_drew1 | refine below_set ?_ GE318.out | refine below_set ?_ GE319.out) | exact HB.out)⟩

/-! ### cobwebref11_Wind: function 52 -/
mutual
def cobwebref11_Wind.l0 : Nat → Int → Int → List (S68) → Int → Int → Int → Option (Int × Bool)
  | 0, _, _, _, _, _, _ => none
  | k + 1, x1, x9, x10, x11, x321000, x321001 => if x11 < (x10.length : Int) then (if 0 ≤ x11 then ((cobwebref11_twice.f ((rd_T68 x10 x11).f0.f0) ((rd_T68 x10 x11).f0.f1)).bind fun bt325 => ((cobwebref11_twice.f ((rd_T68 x10 x11).f1.f0) ((rd_T68 x10 x11).f1.f1)).bind fun bt329 => ((cobwebref04_On.f k x321000 x321001 bt325.1 bt325.2 bt329.1 bt329.2).bind fun t332 => (if t332 = true then (some (0, true)) else (if bt325.1 > x1 then (if bt329.1 ≤ x1 then ((cobwebref04_Cross.f k bt325.1 bt325.2 bt329.1 bt329.2 x321000 x321001).bind fun t333 => (cobwebref11_Wind.j1 k x1 x9 x10 x11 (decide (t333 > 0)) x321000 x321001 bt325.1 bt325.2 bt329.1 bt329.2)) else (cobwebref11_Wind.j1 k x1 x9 x10 x11 false x321000 x321001 bt325.1 bt325.2 bt329.1 bt329.2)) else (cobwebref11_Wind.j1 k x1 x9 x10 x11 false x321000 x321001 bt325.1 bt325.2 bt329.1 bt329.2)))))) else (none)) else (some (x9, false))
def cobwebref11_Wind.j1 : Nat → Int → Int → List (S68) → Int → Bool → Int → Int → Int → Int → Int → Int → Option (Int × Bool)
  | 0, _, _, _, _, _, _, _, _, _, _, _ => none
  | k + 1, x1, x9, x10, x11, x57, x321000, x321001, x328000, x328001, x332000, x332001 => if x57 = true then (if x332000 > x1 then (if x328000 ≤ x1 then ((cobwebref04_Cross.f k x328000 x328001 x332000 x332001 x321000 x321001).bind fun t334 => (if t334 < 0 then (cobwebref11_Wind.l0 k x1 (wrap64 ((wrap64 (x9 + 1)) - 1)) x10 (wrap64 (x11 + 1)) x321000 x321001) else (cobwebref11_Wind.l0 k x1 (wrap64 (x9 + 1)) x10 (wrap64 (x11 + 1)) x321000 x321001))) else (cobwebref11_Wind.l0 k x1 (wrap64 (x9 + 1)) x10 (wrap64 (x11 + 1)) x321000 x321001)) else (cobwebref11_Wind.l0 k x1 (wrap64 (x9 + 1)) x10 (wrap64 (x11 + 1)) x321000 x321001)) else (if x332000 > x1 then (if x328000 ≤ x1 then ((cobwebref04_Cross.f k x328000 x328001 x332000 x332001 x321000 x321001).bind fun t335 => (if t335 < 0 then (cobwebref11_Wind.l0 k x1 (wrap64 (x9 - 1)) x10 (wrap64 (x11 + 1)) x321000 x321001) else (cobwebref11_Wind.l0 k x1 x9 x10 (wrap64 (x11 + 1)) x321000 x321001))) else (cobwebref11_Wind.l0 k x1 x9 x10 (wrap64 (x11 + 1)) x321000 x321001)) else (cobwebref11_Wind.l0 k x1 x9 x10 (wrap64 (x11 + 1)) x321000 x321001))
end
def cobwebref11_Wind.f (k : Nat) (l0 : List (List (S23))) (a1 : Int) (a2 : Int) : Option (Int × Bool) := (cobwebref11_edges.f k l0 0).bind fun t321 => (cobwebref11_Wind.l0 k a1 0 t321 0 a1 a2)
set_option maxHeartbeats 8000000 in
set_option maxRecDepth 100000 in
theorem cobwebref11_Wind.calls (k : Nat) (A0 : Option Addr) (c0 : Nat) (l0 : List (List (S23))) (a1 : Int) (a2 : Int) (r1 : Int) (r2 : Bool) (w : World) (hr0 : Kd.C (Kd.slice 23 k23) w A0 l0.length l0) (hc0 : l0.length ≤ c0) (h : cobwebref11_Wind.f k l0 a1 a2 = some (r1, r2)) :
    Calls Try.prog 52 #[.slice A0 l0.length c0, .int .i64 a1, .int .i64 a2] w fun e w' => e = .returned (.tuple #[.int .i64 r1, .bool r2]) ∧ Below w.heap.size w w' := by
  have hu23 := Try.underlying23
  have HR0 := Aside0.mk hr0
  have HC0 := Aside0.mk hc0
  clear hr0 hc0
  have HB := Aside0.mk (Below.refl w.heap.size w)
  have H : ((cobwebref11_edges.f k l0 0).bind fun t321 => (cobwebref11_Wind.l0 k a1 0 t321 0 a1 a2)) = some (r1, r2) := h
  clear h
  replace H := Option.bind_eq_some_iff.mp H
  obtain ⟨t321, A40, H⟩ := H
  replace H : (cobwebref11_Wind.l0 k a1 0 t321 0 a1 a2) = some (r1, r2) := H
  have A4 := Aside0.mk A40
  clear A40
  have H' := Aside0.mk H
  clear H
  go_enter Try.func52, Try.ntmps52
  go_wp2_with (first | ((with_reducible refine gate_dst (N := 8) rfl ?_); refine box_event ?hg (N := 8) ?hd (cs := #[.int .i64 0, .int .i64 0]) (t := 23) ?hr ?_; (case hd => rfl); (case hg => rfl); (case hr => first | (go_simp; done) | (go_simp; rfl)); intro gb320 hg w5 hbox hb; have n0_ := Aside0.mk (below_step (by repeat (first | (with_reducible first | exact HB.out | apply below_alloc | apply pw_below_drewN | apply below_drew1) | exact HB.out)) hb); have n1_ := Aside0.mk (hbox); have n2_ := Aside0.mk ((by rw [hg]; exact (below_size (by repeat (first | (with_reducible first | exact HB.out | apply below_alloc | apply pw_below_drewN | apply below_drew1) | exact HB.out))) : w.heap.size ≤ gb320)); have n3_ := Aside0.mk ((by rw [hg]; exact (below_size (by repeat (first | (with_reducible first | exact HB.out | apply below_alloc | apply pw_below_drewN | apply below_drew1) | exact HB.out))) : w.heap.size ≤ gb320)); clear HB; have HB := n0_; have BK320 := n1_; have GW320 := n2_; have GE320 := n3_; clear n0_ n1_ n2_ n3_; clear hb hbox hg; have hcz6_0 : w5.cell? ⟨gb320, 0, none⟩ = some (.int .i64 0) := (blk_cell BK320.out 0).trans rfl; have hcz6_1 : w5.cell? ⟨gb320, 1, none⟩ = some (.int .i64 0) := (blk_cell BK320.out 1).trans rfl; have hfz6_0 := blk_frozen BK320.out 0; have hfz6_1 := blk_frozen BK320.out 1) | ((with_reducible refine gate_callee (f := 66) rfl ?_); refine goesL_ (some 18) rfl rfl Try.func66 (by kernel_rfl) rfl #[.slice A0 l0.length c0, .int .i64 0] rfl (by (try simp only [List.map_toArray, List.map_cons, List.map_nil]); first | done | rfl | (simp only [List.length_drop, List.length_take]; rfl)) ?_; (with_reducible refine (cobwebref11_edges.calls k _ _ l0 0 t321 _ ?side1 ?side2 A4.out).mono ?_); (case side1 => exact Kd.C_below HR0.out (by repeat (first | (with_reducible first | exact HB.out | apply below_alloc | apply pw_below_drewN | apply below_drew1 | refine below_set ?_ GE320.out) | exact HB.out))); (case side2 => exact HC0.out); rintro e w7 ⟨v322, rfl, ho0, hb⟩; refine ⟨_, rfl, ?_⟩; have n0_ := Aside0.mk (Kd.R_lower ho0 (below_size (by repeat (first | (with_reducible first | exact HB.out | apply below_alloc | apply pw_below_drewN | apply below_drew1 | refine below_set ?_ GE320.out) | exact HB.out)))); have n1_ := Aside0.mk (blk_below (g := gb320) (o := .cells #[.int .i64 a1, .int .i64 a2] 23 (0, 0)) (by (with_reducible repeat (first | refine blk_drewN ?_ _ | refine blk_drew ?_ | refine blk_alloc ?_ _)); refine blk_put (cs := #[.int .i64 a1, .int .i64 0]) ?_ 1 _ rfl; (with_reducible repeat (first | refine blk_drewN ?_ _ | refine blk_drew ?_ | refine blk_alloc ?_ _)); refine blk_put (cs := #[.int .i64 0, .int .i64 0]) ?_ 0 _ rfl; (with_reducible repeat (first | refine blk_drewN ?_ _ | refine blk_drew ?_ | refine blk_alloc ?_ _)); exact BK320.out) hb); have n2_ := Aside0.mk (below_step (by repeat (first | (with_reducible first | exact HB.out | apply below_alloc | apply pw_below_drewN | apply below_drew1 | refine below_set ?_ GE320.out) | exact HB.out)) hb); clear BK320; clear HB; have HO323 := n0_; have BK320 := n1_; have HB := n2_; clear n0_ n1_ n2_; (try clear hb); (try clear hb2); (try clear hk); (try clear hi); (try clear ho0)))
  go_loopg [9, 11] k (fun kq v9 v11 w' => ∃ (x9_1 : Int) (x11_1 : Int), v9 = .int .i64 x9_1 ∧ v11 = .int .i64 x11_1 ∧ Aside0 (cobwebref11_Wind.l0 kq a1 x9_1 t321 x11_1 a1 a2 = some (r1, r2)) ∧ Aside0 (kq ≤ k) ∧ Aside0 (Kd.R k68 68 w' w.heap.size (fun _ => True) v322 t321) ∧ Aside0 (w'.heap[gb320]? = some (.cells #[.int .i64 a1, .int .i64 a2] 23 (0, 0))) ∧ Aside0 (Below w.heap.size w w'))
  case atStart => exact ⟨(0), (0), (by first | rfl | (simp; done) | (simp [*]; done)), (by first | rfl | (simp; done) | (simp [*]; done)), H', ⟨Nat.le_refl _⟩, ⟨by (with_reducible repeat (first | apply Kd.R_alloc | apply Kd.R_drewN | apply Kd.R_drew)); exact HO323.out⟩, ⟨by (with_reducible repeat (first | refine blk_drewN ?_ _ | refine blk_drew ?_ | refine blk_alloc ?_ _)); exact BK320.out⟩, ⟨by repeat (first | (with_reducible first | exact HB.out | apply below_alloc | apply pw_below_drewN | apply below_drew1 | refine below_set ?_ GE320.out) | exact HB.out)⟩⟩
  case round =>
    clear H'
    try clear p2
    try clear c5
    try clear c6
    try clear hcz6_0
    try clear hcz6_1
    try clear hfz6_0
    try clear hfz6_1
    obtain ⟨x9_1, x11_1, rfl, rfl, HA, HK1, HO_10, BK320, HB⟩ := hrel
    cases gk with
    | zero => exact absurd HA.out (by simp [cobwebref11_Wind.l0])
    | succ k1 =>
      have H := HA.out
      clear HA
      simp only [cobwebref11_Wind.l0] at H
      by_cases c8 : x11_1 < (t321.length : Int)
      · rw [if_pos c8] at H
        have c8b0 : decide (x11_1 < (t321.length : Int)) = true := decide_eq_true c8
        clear c8
        by_cases c9 : 0 ≤ x11_1
        · rw [if_pos c9] at H
          have c9b0 : decide (0 ≤ x11_1) = true := decide_eq_true c9
          clear c9
          replace H := Option.bind_eq_some_iff.mp H
          obtain ⟨⟨t325, t326⟩, A100, H⟩ := H
          replace H : ((cobwebref11_twice.f ((rd_T68 t321 x11_1).f1.f0) ((rd_T68 t321 x11_1).f1.f1)).bind fun bt329 => ((cobwebref04_On.f k1 a1 a2 t325 t326 bt329.1 bt329.2).bind fun t332 => (if t332 = true then (some (0, true)) else (if t325 > a1 then (if bt329.1 ≤ a1 then ((cobwebref04_Cross.f k1 t325 t326 bt329.1 bt329.2 a1 a2).bind fun t333 => (cobwebref11_Wind.j1 k1 a1 x9_1 t321 x11_1 (decide (t333 > 0)) a1 a2 t325 t326 bt329.1 bt329.2)) else (cobwebref11_Wind.j1 k1 a1 x9_1 t321 x11_1 false a1 a2 t325 t326 bt329.1 bt329.2)) else (cobwebref11_Wind.j1 k1 a1 x9_1 t321 x11_1 false a1 a2 t325 t326 bt329.1 bt329.2))))) = some (r1, r2) := H
          have A10 := Aside0.mk A100
          clear A100
          replace H := Option.bind_eq_some_iff.mp H
          obtain ⟨⟨t329, t330⟩, A110, H⟩ := H
          replace H : ((cobwebref04_On.f k1 a1 a2 t325 t326 t329 t330).bind fun t332 => (if t332 = true then (some (0, true)) else (if t325 > a1 then (if t329 ≤ a1 then ((cobwebref04_Cross.f k1 t325 t326 t329 t330 a1 a2).bind fun t333 => (cobwebref11_Wind.j1 k1 a1 x9_1 t321 x11_1 (decide (t333 > 0)) a1 a2 t325 t326 t329 t330)) else (cobwebref11_Wind.j1 k1 a1 x9_1 t321 x11_1 false a1 a2 t325 t326 t329 t330)) else (cobwebref11_Wind.j1 k1 a1 x9_1 t321 x11_1 false a1 a2 t325 t326 t329 t330)))) = some (r1, r2) := H
          have A11 := Aside0.mk A110
          clear A110
          replace H := Option.bind_eq_some_iff.mp H
          obtain ⟨t332, A120, H⟩ := H
          replace H : (if t332 = true then (some (0, true)) else (if t325 > a1 then (if t329 ≤ a1 then ((cobwebref04_Cross.f k1 t325 t326 t329 t330 a1 a2).bind fun t333 => (cobwebref11_Wind.j1 k1 a1 x9_1 t321 x11_1 (decide (t333 > 0)) a1 a2 t325 t326 t329 t330)) else (cobwebref11_Wind.j1 k1 a1 x9_1 t321 x11_1 false a1 a2 t325 t326 t329 t330)) else (cobwebref11_Wind.j1 k1 a1 x9_1 t321 x11_1 false a1 a2 t325 t326 t329 t330))) = some (r1, r2) := H
          have A12 := Aside0.mk A120
          clear A120
          by_cases c13 : t332 = true
          · subst c13
            have H1 : (some (0, true)) = some (r1, r2) := by rw [if_pos rfl] at H; exact H
            clear H
            have H := H1
            clear H1
            simp only [Option.some.injEq, Prod.mk.injEq] at H
            obtain ⟨rfl, rfl⟩ := H
            obtain ⟨Ao14, co14, eo14⟩ := Kd.R_slice HO_10.out
            subst eo14
            have p324 : 0 ≤ (x11_1 : Int) := of_decide_eq_true (by first | (with_reducible assumption) | assumption)
            have q324 : x11_1 < (t321.length : Int) := of_decide_eq_true (by first | (with_reducible assumption) | assumption)
            obtain ⟨ad324, e324, hx324_0, hx324_1, hx324_2, hx324_3, hx324_4⟩ := at_T68 (Kd.R_reads' HO_10.out).2.2 x11_1 p324 q324
            cases e324
            replace p324 := eq_true p324
            replace q324 := eq_true q324
            go_wp2_with (first | ((with_reducible refine gate_callee (f := 69) rfl ?_); refine goesL_ (some 30) rfl rfl Try.func69 (by kernel_rfl) rfl #[.agg #[.int .i64 ((rd_T68 t321 x11_1).f0.f0), .int .i64 ((rd_T68 t321 x11_1).f0.f1)]] rfl (by (try simp only [List.map_toArray, List.map_cons, List.map_nil]); first | done | rfl | (simp only [List.length_drop, List.length_take]; rfl)) ?_; (with_reducible refine (cobwebref11_twice.calls ((rd_T68 t321 x11_1).f0.f0) ((rd_T68 t321 x11_1).f0.f1) t325 t326 _ A10.out).mono ?_); rintro e w15 ⟨rfl, hb⟩; refine ⟨_, rfl, ?_⟩; have n0_ := Aside0.mk (Kd.R_below (by (with_reducible repeat (first | apply Kd.R_alloc | apply Kd.R_drewN | apply Kd.R_drew)); exact HO_10.out) hb); have n1_ := Aside0.mk (blk_below (g := gb320) (o := .cells #[.int .i64 a1, .int .i64 a2] 23 (0, 0)) (by (with_reducible repeat (first | refine blk_drewN ?_ _ | refine blk_drew ?_ | refine blk_alloc ?_ _)); exact BK320.out) hb); have n2_ := Aside0.mk (below_step (by repeat (first | (with_reducible first | exact HB.out | apply below_alloc | apply pw_below_drewN | apply below_drew1 | refine below_set ?_ GE320.out) | exact HB.out)) hb); clear HO_10; clear BK320; clear HB; have HO_10 := n0_; have BK320 := n1_; have HB := n2_; clear n0_ n1_ n2_; (try clear hb); (try clear hb2); (try clear hk); (try clear hi)) | ((with_reducible refine gate_dst (N := 12) rfl ?_); refine box_event ?hg (N := 12) ?hd (cs := #[.int .i64 0, .int .i64 0]) (t := 23) ?hr ?_; (case hd => rfl); (case hg => rfl); (case hr => first | (go_simp; done) | (go_simp; rfl)); intro gb327 hg w16 hbox hb; have n0_ := Aside0.mk (Kd.R_below (by (with_reducible repeat (first | apply Kd.R_alloc | apply Kd.R_drewN | apply Kd.R_drew)); exact HO_10.out) hb); have n1_ := Aside0.mk (blk_below (g := gb320) (o := .cells #[.int .i64 a1, .int .i64 a2] 23 (0, 0)) (by (with_reducible repeat (first | refine blk_drewN ?_ _ | refine blk_drew ?_ | refine blk_alloc ?_ _)); exact BK320.out) hb); have n2_ := Aside0.mk (below_step (by repeat (first | (with_reducible first | exact HB.out | apply below_alloc | apply pw_below_drewN | apply below_drew1 | refine below_set ?_ GE320.out) | exact HB.out)) hb); have n3_ := Aside0.mk (hbox); have n4_ := Aside0.mk ((by rw [hg]; exact (below_size (by repeat (first | (with_reducible first | exact HB.out | apply below_alloc | apply pw_below_drewN | apply below_drew1 | refine below_set ?_ GE320.out) | exact HB.out))) : w.heap.size ≤ gb327)); have n5_ := Aside0.mk ((by rw [hg]; exact (below_size (by repeat (first | (with_reducible first | exact HB.out | apply below_alloc | apply pw_below_drewN | apply below_drew1 | refine below_set ?_ GE320.out) | exact HB.out))) : w.heap.size ≤ gb327)); have n6_ := Aside0.mk ((by rw [hg]; exact Nat.ne_of_lt (blk_lt (g := gb320) (o := .cells #[.int .i64 a1, .int .i64 a2] 23 (0, 0)) (by (with_reducible repeat (first | refine blk_drewN ?_ _ | refine blk_drew ?_ | refine blk_alloc ?_ _)); exact BK320.out)) : gb320 ≠ gb327)); have n7_ := Aside0.mk ((by rw [hg]; exact Nat.ne_of_gt (blk_lt (g := gb320) (o := .cells #[.int .i64 a1, .int .i64 a2] 23 (0, 0)) (by (with_reducible repeat (first | refine blk_drewN ?_ _ | refine blk_drew ?_ | refine blk_alloc ?_ _)); exact BK320.out)) : gb327 ≠ gb320)); clear HO_10; clear BK320; clear HB; have HO_10 := n0_; have BK320 := n1_; have HB := n2_; have BK327 := n3_; have GW327 := n4_; have GE327 := n5_; have NB320_327 := n6_; have NB327_320 := n7_; clear n0_ n1_ n2_ n3_ n4_ n5_ n6_ n7_; clear hb hbox hg; have hnb17 := NB327_320.out; have hnc17 := NB320_327.out; have hcz18_0 : w16.cell? ⟨gb327, 0, none⟩ = some (.int .i64 0) := (blk_cell BK327.out 0).trans rfl; have hcz18_1 : w16.cell? ⟨gb327, 1, none⟩ = some (.int .i64 0) := (blk_cell BK327.out 1).trans rfl; have hfz18_0 := blk_frozen BK327.out 0; have hfz18_1 := blk_frozen BK327.out 1; have p328 : 0 ≤ (x11_1 : Int) := of_decide_eq_true (by first | (with_reducible assumption) | assumption); have q328 : x11_1 < (t321.length : Int) := of_decide_eq_true (by first | (with_reducible assumption) | assumption); obtain ⟨ad328, e328, hx328_0, hx328_1, hx328_2, hx328_3, hx328_4⟩ := at_T68 (Kd.R_reads' HO_10.out).2.2 x11_1 p328 q328; obtain rfl : ad324 = ad328 := (by injection e328); have hn328_0 : ad324.block ≠ gb327 := Kd.own_blk (Kd.R_ne HO_10.out BK327.out (by decide)); have hn328_1 : ad324.block ≠ gb327 := Kd.own_blk (Kd.R_ne HO_10.out BK327.out (by decide)); replace hx328_0 := (cell_far (p := ⟨gb327, 0, none⟩) (by first | (rw [add_block]; exact hn328_0) | (show (Addr.add _ _).block ≠ _; rw [add_block]; exact hn328_0) | exact hn328_0) (.int .i64 t325)).trans hx328_0; replace hx328_1 := (cell_far (p := ⟨gb327, 0, none⟩) (by first | (rw [add_block]; exact hn328_0) | (show (Addr.add _ _).block ≠ _; rw [add_block]; exact hn328_0) | exact hn328_0) (.int .i64 t325)).trans hx328_1; replace hx328_2 := (cell_far (p := ⟨gb327, 0, none⟩) (by first | (rw [add_block]; exact hn328_0) | (show (Addr.add _ _).block ≠ _; rw [add_block]; exact hn328_0) | exact hn328_0) (.int .i64 t325)).trans hx328_2; replace hx328_3 := (cell_far (p := ⟨gb327, 0, none⟩) (by first | (rw [add_block]; exact hn328_0) | (show (Addr.add _ _).block ≠ _; rw [add_block]; exact hn328_0) | exact hn328_0) (.int .i64 t325)).trans hx328_3; replace hx328_4 := (cell_far (p := ⟨gb327, 0, none⟩) (by first | (rw [add_block]; exact hn328_0) | (show (Addr.add _ _).block ≠ _; rw [add_block]; exact hn328_0) | exact hn328_0) (.int .i64 t325)).trans hx328_4; replace hx328_0 := (cell_far (p := ⟨gb327, 1, none⟩) (by first | (rw [add_block]; exact hn328_1) | (show (Addr.add _ _).block ≠ _; rw [add_block]; exact hn328_1) | exact hn328_1) (.int .i64 t326)).trans hx328_0; replace hx328_1 := (cell_far (p := ⟨gb327, 1, none⟩) (by first | (rw [add_block]; exact hn328_1) | (show (Addr.add _ _).block ≠ _; rw [add_block]; exact hn328_1) | exact hn328_1) (.int .i64 t326)).trans hx328_1; replace hx328_2 := (cell_far (p := ⟨gb327, 1, none⟩) (by first | (rw [add_block]; exact hn328_1) | (show (Addr.add _ _).block ≠ _; rw [add_block]; exact hn328_1) | exact hn328_1) (.int .i64 t326)).trans hx328_2; replace hx328_3 := (cell_far (p := ⟨gb327, 1, none⟩) (by first | (rw [add_block]; exact hn328_1) | (show (Addr.add _ _).block ≠ _; rw [add_block]; exact hn328_1) | exact hn328_1) (.int .i64 t326)).trans hx328_3; replace hx328_4 := (cell_far (p := ⟨gb327, 1, none⟩) (by first | (rw [add_block]; exact hn328_1) | (show (Addr.add _ _).block ≠ _; rw [add_block]; exact hn328_1) | exact hn328_1) (.int .i64 t326)).trans hx328_4; clear hn328_0; clear hn328_1; replace p328 := eq_true p328; replace q328 := eq_true q328) | ((with_reducible refine gate_callee (f := 69) rfl ?_); refine goesL_ (some 36) rfl rfl Try.func69 (by kernel_rfl) rfl #[.agg #[.int .i64 ((rd_T68 t321 x11_1).f1.f0), .int .i64 ((rd_T68 t321 x11_1).f1.f1)]] rfl (by (try simp only [List.map_toArray, List.map_cons, List.map_nil]); first | done | rfl | (simp only [List.length_drop, List.length_take]; rfl)) ?_; (with_reducible refine (cobwebref11_twice.calls ((rd_T68 t321 x11_1).f1.f0) ((rd_T68 t321 x11_1).f1.f1) t329 t330 _ A11.out).mono ?_); rintro e w19 ⟨rfl, hb⟩; refine ⟨_, rfl, ?_⟩; have n0_ := Aside0.mk (Kd.R_below (by (with_reducible repeat (first | apply Kd.R_alloc | apply Kd.R_drewN | apply Kd.R_drew)); exact (Kd.R_mono (Kd.R_far (p := ⟨gb327, 1, none⟩) (Kd.R_far (p := ⟨gb327, 0, none⟩) (Kd.R_types HO_10.out BK327.out (by decide)) (fun _ hk => hk.2) (.int .i64 t325)) (fun _ hk => hk.2) (.int .i64 t326)) (fun _ h_ => h_.1))) hb); have n1_ := Aside0.mk (blk_below (g := gb320) (o := .cells #[.int .i64 a1, .int .i64 a2] 23 (0, 0)) (by (with_reducible repeat (first | refine blk_drewN ?_ _ | refine blk_drew ?_ | refine blk_alloc ?_ _)); refine blk_far ?_ NB320_327.out _; (with_reducible repeat (first | refine blk_drewN ?_ _ | refine blk_drew ?_ | refine blk_alloc ?_ _)); refine blk_far ?_ NB320_327.out _; (with_reducible repeat (first | refine blk_drewN ?_ _ | refine blk_drew ?_ | refine blk_alloc ?_ _)); exact BK320.out) hb); have n2_ := Aside0.mk (blk_below (g := gb327) (o := .cells #[.int .i64 t325, .int .i64 t326] 23 (0, 0)) (by (with_reducible repeat (first | refine blk_drewN ?_ _ | refine blk_drew ?_ | refine blk_alloc ?_ _)); refine blk_put (cs := #[.int .i64 t325, .int .i64 0]) ?_ 1 _ rfl; (with_reducible repeat (first | refine blk_drewN ?_ _ | refine blk_drew ?_ | refine blk_alloc ?_ _)); refine blk_put (cs := #[.int .i64 0, .int .i64 0]) ?_ 0 _ rfl; (with_reducible repeat (first | refine blk_drewN ?_ _ | refine blk_drew ?_ | refine blk_alloc ?_ _)); exact BK327.out) hb); have n3_ := Aside0.mk (below_step (by repeat (first | (with_reducible first | exact HB.out | apply below_alloc | apply pw_below_drewN | apply below_drew1 | refine below_set ?_ GE320.out | refine below_set ?_ GE327.out) | exact HB.out)) hb); clear HO_10; clear BK320; clear BK327; clear HB; have HO_10 := n0_; have BK320 := n1_; have BK327 := n2_; have HB := n3_; clear n0_ n1_ n2_ n3_; (try clear hb); (try clear hb2); (try clear hk); (try clear hi)) | ((with_reducible refine gate_dst (N := 13) rfl ?_); refine box_event ?hg (N := 13) ?hd (cs := #[.int .i64 0, .int .i64 0]) (t := 23) ?hr ?_; (case hd => rfl); (case hg => rfl); (case hr => first | (go_simp; done) | (go_simp; rfl)); intro gb331 hg w20 hbox hb; have n0_ := Aside0.mk (Kd.R_below (by (with_reducible repeat (first | apply Kd.R_alloc | apply Kd.R_drewN | apply Kd.R_drew)); exact HO_10.out) hb); have n1_ := Aside0.mk (blk_below (g := gb320) (o := .cells #[.int .i64 a1, .int .i64 a2] 23 (0, 0)) (by (with_reducible repeat (first | refine blk_drewN ?_ _ | refine blk_drew ?_ | refine blk_alloc ?_ _)); exact BK320.out) hb); have n2_ := Aside0.mk (blk_below (g := gb327) (o := .cells #[.int .i64 t325, .int .i64 t326] 23 (0, 0)) (by (with_reducible repeat (first | refine blk_drewN ?_ _ | refine blk_drew ?_ | refine blk_alloc ?_ _)); exact BK327.out) hb); have n3_ := Aside0.mk (below_step (by repeat (first | (with_reducible first | exact HB.out | apply below_alloc | apply pw_below_drewN | apply below_drew1 | refine below_set ?_ GE320.out | refine below_set ?_ GE327.out) | exact HB.out)) hb); have n4_ := Aside0.mk (hbox); have n5_ := Aside0.mk ((by rw [hg]; exact (below_size (by repeat (first | (with_reducible first | exact HB.out | apply below_alloc | apply pw_below_drewN | apply below_drew1 | refine below_set ?_ GE320.out | refine below_set ?_ GE327.out) | exact HB.out))) : w.heap.size ≤ gb331)); have n6_ := Aside0.mk ((by rw [hg]; exact (below_size (by repeat (first | (with_reducible first | exact HB.out | apply below_alloc | apply pw_below_drewN | apply below_drew1 | refine below_set ?_ GE320.out | refine below_set ?_ GE327.out) | exact HB.out))) : w.heap.size ≤ gb331)); have n7_ := Aside0.mk ((by rw [hg]; exact Nat.ne_of_lt (blk_lt (g := gb320) (o := .cells #[.int .i64 a1, .int .i64 a2] 23 (0, 0)) (by (with_reducible repeat (first | refine blk_drewN ?_ _ | refine blk_drew ?_ | refine blk_alloc ?_ _)); exact BK320.out)) : gb320 ≠ gb331)); have n8_ := Aside0.mk ((by rw [hg]; exact Nat.ne_of_gt (blk_lt (g := gb320) (o := .cells #[.int .i64 a1, .int .i64 a2] 23 (0, 0)) (by (with_reducible repeat (first | refine blk_drewN ?_ _ | refine blk_drew ?_ | refine blk_alloc ?_ _)); exact BK320.out)) : gb331 ≠ gb320)); have n9_ := Aside0.mk ((by rw [hg]; exact Nat.ne_of_lt (blk_lt (g := gb327) (o := .cells #[.int .i64 t325, .int .i64 t326] 23 (0, 0)) (by (with_reducible repeat (first | refine blk_drewN ?_ _ | refine blk_drew ?_ | refine blk_alloc ?_ _)); exact BK327.out)) : gb327 ≠ gb331)); have n10_ := Aside0.mk ((by rw [hg]; exact Nat.ne_of_gt (blk_lt (g := gb327) (o := .cells #[.int .i64 t325, .int .i64 t326] 23 (0, 0)) (by (with_reducible repeat (first | refine blk_drewN ?_ _ | refine blk_drew ?_ | refine blk_alloc ?_ _)); exact BK327.out)) : gb331 ≠ gb327)); clear HO_10; clear BK320; clear BK327; clear HB; have HO_10 := n0_; have BK320 := n1_; have BK327 := n2_; have HB := n3_; have BK331 := n4_; have GW331 := n5_; have GE331 := n6_; have NB320_331 := n7_; have NB331_320 := n8_; have NB327_331 := n9_; have NB331_327 := n10_; clear n0_ n1_ n2_ n3_ n4_ n5_ n6_ n7_ n8_ n9_ n10_; clear hb hbox hg; have hnb21 := NB331_320.out; have hnc21 := NB320_331.out; have hnb22 := NB331_327.out; have hnc22 := NB327_331.out; have hcz23_0 : w20.cell? ⟨gb331, 0, none⟩ = some (.int .i64 0) := (blk_cell BK331.out 0).trans rfl; have hcz23_1 : w20.cell? ⟨gb331, 1, none⟩ = some (.int .i64 0) := (blk_cell BK331.out 1).trans rfl; have hfz23_0 := blk_frozen BK331.out 0; have hfz23_1 := blk_frozen BK331.out 1; have hcz24_0 : w20.cell? ⟨gb320, 0, none⟩ = some (.int .i64 a1) := (blk_cell BK320.out 0).trans rfl; have hcz24_1 : w20.cell? ⟨gb320, 1, none⟩ = some (.int .i64 a2) := (blk_cell BK320.out 1).trans rfl; have hfz24_0 := blk_frozen BK320.out 0; have hfz24_1 := blk_frozen BK320.out 1; have hcz25_0 : w20.cell? ⟨gb327, 0, none⟩ = some (.int .i64 t325) := (blk_cell BK327.out 0).trans rfl; have hcz25_1 : w20.cell? ⟨gb327, 1, none⟩ = some (.int .i64 t326) := (blk_cell BK327.out 1).trans rfl; have hfz25_0 := blk_frozen BK327.out 0; have hfz25_1 := blk_frozen BK327.out 1) | ((with_reducible refine gate_callee (f := 27) rfl ?_); refine goesL_ (some 40) rfl rfl Try.func27 (by kernel_rfl) rfl #[.agg #[.int .i64 a1, .int .i64 a2], .agg #[.int .i64 t325, .int .i64 t326], .agg #[.int .i64 t329, .int .i64 t330]] rfl (by (try simp only [List.map_toArray, List.map_cons, List.map_nil]); first | done | rfl | (simp only [List.length_drop, List.length_take]; rfl)) ?_; (with_reducible refine (cobwebref04_On.calls k1 a1 a2 t325 t326 t329 t330 true _ A12.out).mono ?_); rintro e w26 ⟨rfl, hb⟩; refine ⟨_, rfl, ?_⟩; have n0_ := Aside0.mk (Kd.R_below (by (with_reducible repeat (first | apply Kd.R_alloc | apply Kd.R_drewN | apply Kd.R_drew)); exact (Kd.R_mono (Kd.R_far (p := ⟨gb331, 1, none⟩) (Kd.R_far (p := ⟨gb331, 0, none⟩) (Kd.R_types HO_10.out BK331.out (by decide)) (fun _ hk => hk.2) (.int .i64 t329)) (fun _ hk => hk.2) (.int .i64 t330)) (fun _ h_ => h_.1))) hb); have n1_ := Aside0.mk (blk_below (g := gb320) (o := .cells #[.int .i64 a1, .int .i64 a2] 23 (0, 0)) (by (with_reducible repeat (first | refine blk_drewN ?_ _ | refine blk_drew ?_ | refine blk_alloc ?_ _)); refine blk_far ?_ NB320_331.out _; (with_reducible repeat (first | refine blk_drewN ?_ _ | refine blk_drew ?_ | refine blk_alloc ?_ _)); refine blk_far ?_ NB320_331.out _; (with_reducible repeat (first | refine blk_drewN ?_ _ | refine blk_drew ?_ | refine blk_alloc ?_ _)); exact BK320.out) hb); have n2_ := Aside0.mk (blk_below (g := gb327) (o := .cells #[.int .i64 t325, .int .i64 t326] 23 (0, 0)) (by (with_reducible repeat (first | refine blk_drewN ?_ _ | refine blk_drew ?_ | refine blk_alloc ?_ _)); refine blk_far ?_ NB327_331.out _; (with_reducible repeat (first | refine blk_drewN ?_ _ | refine blk_drew ?_ | refine blk_alloc ?_ _)); refine blk_far ?_ NB327_331.out _; (with_reducible repeat (first | refine blk_drewN ?_ _ | refine blk_drew ?_ | refine blk_alloc ?_ _)); exact BK327.out) hb); have n3_ := Aside0.mk (blk_below (g := gb331) (o := .cells #[.int .i64 t329, .int .i64 t330] 23 (0, 0)) (by (with_reducible repeat (first | refine blk_drewN ?_ _ | refine blk_drew ?_ | refine blk_alloc ?_ _)); refine blk_put (cs := #[.int .i64 t329, .int .i64 0]) ?_ 1 _ rfl; (with_reducible repeat (first | refine blk_drewN ?_ _ | refine blk_drew ?_ | refine blk_alloc ?_ _)); refine blk_put (cs := #[.int .i64 0, .int .i64 0]) ?_ 0 _ rfl; (with_reducible repeat (first | refine blk_drewN ?_ _ | refine blk_drew ?_ | refine blk_alloc ?_ _)); exact BK331.out) hb); have n4_ := Aside0.mk (below_step (by repeat (first | (with_reducible first | exact HB.out | apply below_alloc | apply pw_below_drewN | apply below_drew1 | refine below_set ?_ GE320.out | refine below_set ?_ GE327.out | refine below_set ?_ GE331.out) | exact HB.out)) hb); clear HO_10; clear BK320; clear BK327; clear BK331; clear HB; have HO_10 := n0_; have BK320 := n1_; have BK327 := n2_; have BK331 := n3_; have HB := n4_; clear n0_ n1_ n2_ n3_ n4_; (try clear hb); (try clear hb2); (try clear hk); (try clear hi)))
            go_ret2
            exact ⟨by first | rfl | (simp [errW_none, errW_some] <;> rfl) | (simp [*, errW_none, errW_some] <;> rfl), by repeat (first | (with_reducible first | exact HB.out | apply below_alloc | apply pw_below_drewN | apply below_drew1 | refine below_set ?_ GE320.out | refine below_set ?_ GE327.out | refine below_set ?_ GE331.out) | exact HB.out)⟩
          · replace c13 := Bool.eq_false_iff.mpr c13
            subst c13
            have H1 : (if t325 > a1 then (if t329 ≤ a1 then ((cobwebref04_Cross.f k1 t325 t326 t329 t330 a1 a2).bind fun t333 => (cobwebref11_Wind.j1 k1 a1 x9_1 t321 x11_1 (decide (t333 > 0)) a1 a2 t325 t326 t329 t330)) else (cobwebref11_Wind.j1 k1 a1 x9_1 t321 x11_1 false a1 a2 t325 t326 t329 t330)) else (cobwebref11_Wind.j1 k1 a1 x9_1 t321 x11_1 false a1 a2 t325 t326 t329 t330)) = some (r1, r2) := by rw [if_neg (show ¬ (false = true) by decide)] at H; exact H
            clear H
            have H := H1
            clear H1
            have HC27 := Aside0.mk H
            clear H
            obtain ⟨Ao28, co28, eo28⟩ := Kd.R_slice HO_10.out
            subst eo28
            have p324 : 0 ≤ (x11_1 : Int) := of_decide_eq_true (by first | (with_reducible assumption) | assumption)
            have q324 : x11_1 < (t321.length : Int) := of_decide_eq_true (by first | (with_reducible assumption) | assumption)
            obtain ⟨ad324, e324, hx324_0, hx324_1, hx324_2, hx324_3, hx324_4⟩ := at_T68 (Kd.R_reads' HO_10.out).2.2 x11_1 p324 q324
            cases e324
            replace p324 := eq_true p324
            replace q324 := eq_true q324
            go_upto_region 11 with (first | ((with_reducible refine gate_callee (f := 69) rfl ?_); refine goesL_ (some 30) rfl rfl Try.func69 (by kernel_rfl) rfl #[.agg #[.int .i64 ((rd_T68 t321 x11_1).f0.f0), .int .i64 ((rd_T68 t321 x11_1).f0.f1)]] rfl (by (try simp only [List.map_toArray, List.map_cons, List.map_nil]); first | done | rfl | (simp only [List.length_drop, List.length_take]; rfl)) ?_; (with_reducible refine (cobwebref11_twice.calls ((rd_T68 t321 x11_1).f0.f0) ((rd_T68 t321 x11_1).f0.f1) t325 t326 _ A10.out).mono ?_); rintro e w29 ⟨rfl, hb⟩; refine ⟨_, rfl, ?_⟩; have n0_ := Aside0.mk (Kd.R_below (by (with_reducible repeat (first | apply Kd.R_alloc | apply Kd.R_drewN | apply Kd.R_drew)); exact HO_10.out) hb); have n1_ := Aside0.mk (blk_below (g := gb320) (o := .cells #[.int .i64 a1, .int .i64 a2] 23 (0, 0)) (by (with_reducible repeat (first | refine blk_drewN ?_ _ | refine blk_drew ?_ | refine blk_alloc ?_ _)); exact BK320.out) hb); have n2_ := Aside0.mk (below_step (by repeat (first | (with_reducible first | exact HB.out | apply below_alloc | apply pw_below_drewN | apply below_drew1 | refine below_set ?_ GE320.out) | exact HB.out)) hb); clear HO_10; clear BK320; clear HB; have HO_10 := n0_; have BK320 := n1_; have HB := n2_; clear n0_ n1_ n2_; (try clear hb); (try clear hb2); (try clear hk); (try clear hi)) | ((with_reducible refine gate_dst (N := 12) rfl ?_); refine box_event ?hg (N := 12) ?hd (cs := #[.int .i64 0, .int .i64 0]) (t := 23) ?hr ?_; (case hd => rfl); (case hg => rfl); (case hr => first | (go_simp; done) | (go_simp; rfl)); intro gb327 hg w30 hbox hb; have n0_ := Aside0.mk (Kd.R_below (by (with_reducible repeat (first | apply Kd.R_alloc | apply Kd.R_drewN | apply Kd.R_drew)); exact HO_10.out) hb); have n1_ := Aside0.mk (blk_below (g := gb320) (o := .cells #[.int .i64 a1, .int .i64 a2] 23 (0, 0)) (by (with_reducible repeat (first | refine blk_drewN ?_ _ | refine blk_drew ?_ | refine blk_alloc ?_ _)); exact BK320.out) hb); have n2_ := Aside0.mk (below_step (by repeat (first | (with_reducible first | exact HB.out | apply below_alloc | apply pw_below_drewN | apply below_drew1 | refine below_set ?_ GE320.out) | exact HB.out)) hb); have n3_ := Aside0.mk (hbox); have n4_ := Aside0.mk ((by rw [hg]; exact (below_size (by repeat (first | (with_reducible first | exact HB.out | apply below_alloc | apply pw_below_drewN | apply below_drew1 | refine below_set ?_ GE320.out) | exact HB.out))) : w.heap.size ≤ gb327)); have n5_ := Aside0.mk ((by rw [hg]; exact (below_size (by repeat (first | (with_reducible first | exact HB.out | apply below_alloc | apply pw_below_drewN | apply below_drew1 | refine below_set ?_ GE320.out) | exact HB.out))) : w.heap.size ≤ gb327)); have n6_ := Aside0.mk ((by rw [hg]; exact Nat.ne_of_lt (blk_lt (g := gb320) (o := .cells #[.int .i64 a1, .int .i64 a2] 23 (0, 0)) (by (with_reducible repeat (first | refine blk_drewN ?_ _ | refine blk_drew ?_ | refine blk_alloc ?_ _)); exact BK320.out)) : gb320 ≠ gb327)); have n7_ := Aside0.mk ((by rw [hg]; exact Nat.ne_of_gt (blk_lt (g := gb320) (o := .cells #[.int .i64 a1, .int .i64 a2] 23 (0, 0)) (by (with_reducible repeat (first | refine blk_drewN ?_ _ | refine blk_drew ?_ | refine blk_alloc ?_ _)); exact BK320.out)) : gb327 ≠ gb320)); clear HO_10; clear BK320; clear HB; have HO_10 := n0_; have BK320 := n1_; have HB := n2_; have BK327 := n3_; have GW327 := n4_; have GE327 := n5_; have NB320_327 := n6_; have NB327_320 := n7_; clear n0_ n1_ n2_ n3_ n4_ n5_ n6_ n7_; clear hb hbox hg; have hnb31 := NB327_320.out; have hnc31 := NB320_327.out; have hcz32_0 : w30.cell? ⟨gb327, 0, none⟩ = some (.int .i64 0) := (blk_cell BK327.out 0).trans rfl; have hcz32_1 : w30.cell? ⟨gb327, 1, none⟩ = some (.int .i64 0) := (blk_cell BK327.out 1).trans rfl; have hfz32_0 := blk_frozen BK327.out 0; have hfz32_1 := blk_frozen BK327.out 1; have p328 : 0 ≤ (x11_1 : Int) := of_decide_eq_true (by first | (with_reducible assumption) | assumption); have q328 : x11_1 < (t321.length : Int) := of_decide_eq_true (by first | (with_reducible assumption) | assumption); obtain ⟨ad328, e328, hx328_0, hx328_1, hx328_2, hx328_3, hx328_4⟩ := at_T68 (Kd.R_reads' HO_10.out).2.2 x11_1 p328 q328; obtain rfl : ad324 = ad328 := (by injection e328); have hn328_0 : ad324.block ≠ gb327 := Kd.own_blk (Kd.R_ne HO_10.out BK327.out (by decide)); have hn328_1 : ad324.block ≠ gb327 := Kd.own_blk (Kd.R_ne HO_10.out BK327.out (by decide)); replace hx328_0 := (cell_far (p := ⟨gb327, 0, none⟩) (by first | (rw [add_block]; exact hn328_0) | (show (Addr.add _ _).block ≠ _; rw [add_block]; exact hn328_0) | exact hn328_0) (.int .i64 t325)).trans hx328_0; replace hx328_1 := (cell_far (p := ⟨gb327, 0, none⟩) (by first | (rw [add_block]; exact hn328_0) | (show (Addr.add _ _).block ≠ _; rw [add_block]; exact hn328_0) | exact hn328_0) (.int .i64 t325)).trans hx328_1; replace hx328_2 := (cell_far (p := ⟨gb327, 0, none⟩) (by first | (rw [add_block]; exact hn328_0) | (show (Addr.add _ _).block ≠ _; rw [add_block]; exact hn328_0) | exact hn328_0) (.int .i64 t325)).trans hx328_2; replace hx328_3 := (cell_far (p := ⟨gb327, 0, none⟩) (by first | (rw [add_block]; exact hn328_0) | (show (Addr.add _ _).block ≠ _; rw [add_block]; exact hn328_0) | exact hn328_0) (.int .i64 t325)).trans hx328_3; replace hx328_4 := (cell_far (p := ⟨gb327, 0, none⟩) (by first | (rw [add_block]; exact hn328_0) | (show (Addr.add _ _).block ≠ _; rw [add_block]; exact hn328_0) | exact hn328_0) (.int .i64 t325)).trans hx328_4; replace hx328_0 := (cell_far (p := ⟨gb327, 1, none⟩) (by first | (rw [add_block]; exact hn328_1) | (show (Addr.add _ _).block ≠ _; rw [add_block]; exact hn328_1) | exact hn328_1) (.int .i64 t326)).trans hx328_0; replace hx328_1 := (cell_far (p := ⟨gb327, 1, none⟩) (by first | (rw [add_block]; exact hn328_1) | (show (Addr.add _ _).block ≠ _; rw [add_block]; exact hn328_1) | exact hn328_1) (.int .i64 t326)).trans hx328_1; replace hx328_2 := (cell_far (p := ⟨gb327, 1, none⟩) (by first | (rw [add_block]; exact hn328_1) | (show (Addr.add _ _).block ≠ _; rw [add_block]; exact hn328_1) | exact hn328_1) (.int .i64 t326)).trans hx328_2; replace hx328_3 := (cell_far (p := ⟨gb327, 1, none⟩) (by first | (rw [add_block]; exact hn328_1) | (show (Addr.add _ _).block ≠ _; rw [add_block]; exact hn328_1) | exact hn328_1) (.int .i64 t326)).trans hx328_3; replace hx328_4 := (cell_far (p := ⟨gb327, 1, none⟩) (by first | (rw [add_block]; exact hn328_1) | (show (Addr.add _ _).block ≠ _; rw [add_block]; exact hn328_1) | exact hn328_1) (.int .i64 t326)).trans hx328_4; clear hn328_0; clear hn328_1; replace p328 := eq_true p328; replace q328 := eq_true q328) | ((with_reducible refine gate_callee (f := 69) rfl ?_); refine goesL_ (some 36) rfl rfl Try.func69 (by kernel_rfl) rfl #[.agg #[.int .i64 ((rd_T68 t321 x11_1).f1.f0), .int .i64 ((rd_T68 t321 x11_1).f1.f1)]] rfl (by (try simp only [List.map_toArray, List.map_cons, List.map_nil]); first | done | rfl | (simp only [List.length_drop, List.length_take]; rfl)) ?_; (with_reducible refine (cobwebref11_twice.calls ((rd_T68 t321 x11_1).f1.f0) ((rd_T68 t321 x11_1).f1.f1) t329 t330 _ A11.out).mono ?_); rintro e w33 ⟨rfl, hb⟩; refine ⟨_, rfl, ?_⟩; have n0_ := Aside0.mk (Kd.R_below (by (with_reducible repeat (first | apply Kd.R_alloc | apply Kd.R_drewN | apply Kd.R_drew)); exact (Kd.R_mono (Kd.R_far (p := ⟨gb327, 1, none⟩) (Kd.R_far (p := ⟨gb327, 0, none⟩) (Kd.R_types HO_10.out BK327.out (by decide)) (fun _ hk => hk.2) (.int .i64 t325)) (fun _ hk => hk.2) (.int .i64 t326)) (fun _ h_ => h_.1))) hb); have n1_ := Aside0.mk (blk_below (g := gb320) (o := .cells #[.int .i64 a1, .int .i64 a2] 23 (0, 0)) (by (with_reducible repeat (first | refine blk_drewN ?_ _ | refine blk_drew ?_ | refine blk_alloc ?_ _)); refine blk_far ?_ NB320_327.out _; (with_reducible repeat (first | refine blk_drewN ?_ _ | refine blk_drew ?_ | refine blk_alloc ?_ _)); refine blk_far ?_ NB320_327.out _; (with_reducible repeat (first | refine blk_drewN ?_ _ | refine blk_drew ?_ | refine blk_alloc ?_ _)); exact BK320.out) hb); have n2_ := Aside0.mk (blk_below (g := gb327) (o := .cells #[.int .i64 t325, .int .i64 t326] 23 (0, 0)) (by (with_reducible repeat (first | refine blk_drewN ?_ _ | refine blk_drew ?_ | refine blk_alloc ?_ _)); refine blk_put (cs := #[.int .i64 t325, .int .i64 0]) ?_ 1 _ rfl; (with_reducible repeat (first | refine blk_drewN ?_ _ | refine blk_drew ?_ | refine blk_alloc ?_ _)); refine blk_put (cs := #[.int .i64 0, .int .i64 0]) ?_ 0 _ rfl; (with_reducible repeat (first | refine blk_drewN ?_ _ | refine blk_drew ?_ | refine blk_alloc ?_ _)); exact BK327.out) hb); have n3_ := Aside0.mk (below_step (by repeat (first | (with_reducible first | exact HB.out | apply below_alloc | apply pw_below_drewN | apply below_drew1 | refine below_set ?_ GE320.out | refine below_set ?_ GE327.out) | exact HB.out)) hb); clear HO_10; clear BK320; clear BK327; clear HB; have HO_10 := n0_; have BK320 := n1_; have BK327 := n2_; have HB := n3_; clear n0_ n1_ n2_ n3_; (try clear hb); (try clear hb2); (try clear hk); (try clear hi)) | ((with_reducible refine gate_dst (N := 13) rfl ?_); refine box_event ?hg (N := 13) ?hd (cs := #[.int .i64 0, .int .i64 0]) (t := 23) ?hr ?_; (case hd => rfl); (case hg => rfl); (case hr => first | (go_simp; done) | (go_simp; rfl)); intro gb331 hg w34 hbox hb; have n0_ := Aside0.mk (Kd.R_below (by (with_reducible repeat (first | apply Kd.R_alloc | apply Kd.R_drewN | apply Kd.R_drew)); exact HO_10.out) hb); have n1_ := Aside0.mk (blk_below (g := gb320) (o := .cells #[.int .i64 a1, .int .i64 a2] 23 (0, 0)) (by (with_reducible repeat (first | refine blk_drewN ?_ _ | refine blk_drew ?_ | refine blk_alloc ?_ _)); exact BK320.out) hb); have n2_ := Aside0.mk (blk_below (g := gb327) (o := .cells #[.int .i64 t325, .int .i64 t326] 23 (0, 0)) (by (with_reducible repeat (first | refine blk_drewN ?_ _ | refine blk_drew ?_ | refine blk_alloc ?_ _)); exact BK327.out) hb); have n3_ := Aside0.mk (below_step (by repeat (first | (with_reducible first | exact HB.out | apply below_alloc | apply pw_below_drewN | apply below_drew1 | refine below_set ?_ GE320.out | refine below_set ?_ GE327.out) | exact HB.out)) hb); have n4_ := Aside0.mk (hbox); have n5_ := Aside0.mk ((by rw [hg]; exact (below_size (by repeat (first | (with_reducible first | exact HB.out | apply below_alloc | apply pw_below_drewN | apply below_drew1 | refine below_set ?_ GE320.out | refine below_set ?_ GE327.out) | exact HB.out))) : w.heap.size ≤ gb331)); have n6_ := Aside0.mk ((by rw [hg]; exact (below_size (by repeat (first | (with_reducible first | exact HB.out | apply below_alloc | apply pw_below_drewN | apply below_drew1 | refine below_set ?_ GE320.out | refine below_set ?_ GE327.out) | exact HB.out))) : w.heap.size ≤ gb331)); have n7_ := Aside0.mk ((by rw [hg]; exact Nat.ne_of_lt (blk_lt (g := gb320) (o := .cells #[.int .i64 a1, .int .i64 a2] 23 (0, 0)) (by (with_reducible repeat (first | refine blk_drewN ?_ _ | refine blk_drew ?_ | refine blk_alloc ?_ _)); exact BK320.out)) : gb320 ≠ gb331)); have n8_ := Aside0.mk ((by rw [hg]; exact Nat.ne_of_gt (blk_lt (g := gb320) (o := .cells #[.int .i64 a1, .int .i64 a2] 23 (0, 0)) (by (with_reducible repeat (first | refine blk_drewN ?_ _ | refine blk_drew ?_ | refine blk_alloc ?_ _)); exact BK320.out)) : gb331 ≠ gb320)); have n9_ := Aside0.mk ((by rw [hg]; exact Nat.ne_of_lt (blk_lt (g := gb327) (o := .cells #[.int .i64 t325, .int .i64 t326] 23 (0, 0)) (by (with_reducible repeat (first | refine blk_drewN ?_ _ | refine blk_drew ?_ | refine blk_alloc ?_ _)); exact BK327.out)) : gb327 ≠ gb331)); have n10_ := Aside0.mk ((by rw [hg]; exact Nat.ne_of_gt (blk_lt (g := gb327) (o := .cells #[.int .i64 t325, .int .i64 t326] 23 (0, 0)) (by (with_reducible repeat (first | refine blk_drewN ?_ _ | refine blk_drew ?_ | refine blk_alloc ?_ _)); exact BK327.out)) : gb331 ≠ gb327)); clear HO_10; clear BK320; clear BK327; clear HB; have HO_10 := n0_; have BK320 := n1_; have BK327 := n2_; have HB := n3_; have BK331 := n4_; have GW331 := n5_; have GE331 := n6_; have NB320_331 := n7_; have NB331_320 := n8_; have NB327_331 := n9_; have NB331_327 := n10_; clear n0_ n1_ n2_ n3_ n4_ n5_ n6_ n7_ n8_ n9_ n10_; clear hb hbox hg; have hnb35 := NB331_320.out; have hnc35 := NB320_331.out; have hnb36 := NB331_327.out; have hnc36 := NB327_331.out; have hcz37_0 : w34.cell? ⟨gb331, 0, none⟩ = some (.int .i64 0) := (blk_cell BK331.out 0).trans rfl; have hcz37_1 : w34.cell? ⟨gb331, 1, none⟩ = some (.int .i64 0) := (blk_cell BK331.out 1).trans rfl; have hfz37_0 := blk_frozen BK331.out 0; have hfz37_1 := blk_frozen BK331.out 1; have hcz38_0 : w34.cell? ⟨gb320, 0, none⟩ = some (.int .i64 a1) := (blk_cell BK320.out 0).trans rfl; have hcz38_1 : w34.cell? ⟨gb320, 1, none⟩ = some (.int .i64 a2) := (blk_cell BK320.out 1).trans rfl; have hfz38_0 := blk_frozen BK320.out 0; have hfz38_1 := blk_frozen BK320.out 1; have hcz39_0 : w34.cell? ⟨gb327, 0, none⟩ = some (.int .i64 t325) := (blk_cell BK327.out 0).trans rfl; have hcz39_1 : w34.cell? ⟨gb327, 1, none⟩ = some (.int .i64 t326) := (blk_cell BK327.out 1).trans rfl; have hfz39_0 := blk_frozen BK327.out 0; have hfz39_1 := blk_frozen BK327.out 1) | ((with_reducible refine gate_callee (f := 27) rfl ?_); refine goesL_ (some 40) rfl rfl Try.func27 (by kernel_rfl) rfl #[.agg #[.int .i64 a1, .int .i64 a2], .agg #[.int .i64 t325, .int .i64 t326], .agg #[.int .i64 t329, .int .i64 t330]] rfl (by (try simp only [List.map_toArray, List.map_cons, List.map_nil]); first | done | rfl | (simp only [List.length_drop, List.length_take]; rfl)) ?_; (with_reducible refine (cobwebref04_On.calls k1 a1 a2 t325 t326 t329 t330 false _ A12.out).mono ?_); rintro e w40 ⟨rfl, hb⟩; refine ⟨_, rfl, ?_⟩; have n0_ := Aside0.mk (Kd.R_below (by (with_reducible repeat (first | apply Kd.R_alloc | apply Kd.R_drewN | apply Kd.R_drew)); exact (Kd.R_mono (Kd.R_far (p := ⟨gb331, 1, none⟩) (Kd.R_far (p := ⟨gb331, 0, none⟩) (Kd.R_types HO_10.out BK331.out (by decide)) (fun _ hk => hk.2) (.int .i64 t329)) (fun _ hk => hk.2) (.int .i64 t330)) (fun _ h_ => h_.1))) hb); have n1_ := Aside0.mk (blk_below (g := gb320) (o := .cells #[.int .i64 a1, .int .i64 a2] 23 (0, 0)) (by (with_reducible repeat (first | refine blk_drewN ?_ _ | refine blk_drew ?_ | refine blk_alloc ?_ _)); refine blk_far ?_ NB320_331.out _; (with_reducible repeat (first | refine blk_drewN ?_ _ | refine blk_drew ?_ | refine blk_alloc ?_ _)); refine blk_far ?_ NB320_331.out _; (with_reducible repeat (first | refine blk_drewN ?_ _ | refine blk_drew ?_ | refine blk_alloc ?_ _)); exact BK320.out) hb); have n2_ := Aside0.mk (blk_below (g := gb327) (o := .cells #[.int .i64 t325, .int .i64 t326] 23 (0, 0)) (by (with_reducible repeat (first | refine blk_drewN ?_ _ | refine blk_drew ?_ | refine blk_alloc ?_ _)); refine blk_far ?_ NB327_331.out _; (with_reducible repeat (first | refine blk_drewN ?_ _ | refine blk_drew ?_ | refine blk_alloc ?_ _)); refine blk_far ?_ NB327_331.out _; (with_reducible repeat (first | refine blk_drewN ?_ _ | refine blk_drew ?_ | refine blk_alloc ?_ _)); exact BK327.out) hb); have n3_ := Aside0.mk (blk_below (g := gb331) (o := .cells #[.int .i64 t329, .int .i64 t330] 23 (0, 0)) (by (with_reducible repeat (first | refine blk_drewN ?_ _ | refine blk_drew ?_ | refine blk_alloc ?_ _)); refine blk_put (cs := #[.int .i64 t329, .int .i64 0]) ?_ 1 _ rfl; (with_reducible repeat (first | refine blk_drewN ?_ _ | refine blk_drew ?_ | refine blk_alloc ?_ _)); refine blk_put (cs := #[.int .i64 0, .int .i64 0]) ?_ 0 _ rfl; (with_reducible repeat (first | refine blk_drewN ?_ _ | refine blk_drew ?_ | refine blk_alloc ?_ _)); exact BK331.out) hb); have n4_ := Aside0.mk (below_step (by repeat (first | (with_reducible first | exact HB.out | apply below_alloc | apply pw_below_drewN | apply below_drew1 | refine below_set ?_ GE320.out | refine below_set ?_ GE327.out | refine below_set ?_ GE331.out) | exact HB.out)) hb); clear HO_10; clear BK320; clear BK327; clear BK331; clear HB; have HO_10 := n0_; have BK320 := n1_; have BK327 := n2_; have BK331 := n3_; have HB := n4_; clear n0_ n1_ n2_ n3_ n4_; (try clear hb); (try clear hb2); (try clear hk); (try clear hi)))
            (try simp only [Act.put, List.setIfInBounds_toArray, List.set_cons_zero, List.set_cons_succ])
            go_cut [57] (fun v57 wc => ∃ (kq : Nat) (x57_26 : Bool), v57 = .bool x57_26 ∧ Aside0 (cobwebref11_Wind.j1 kq a1 x9_1 t321 x11_1 x57_26 a1 a2 t325 t326 t329 t330 = some (r1, r2)) ∧ Aside0 (kq ≤ k1) ∧ Aside0 (Kd.R k68 68 wc w.heap.size (fun _ => True) (.slice (some ad324) t321.length co28) t321) ∧ Aside0 (wc.heap[gb320]? = some (.cells #[.int .i64 a1, .int .i64 a2] 23 (0, 0))) ∧ Aside0 (wc.heap[gb327]? = some (.cells #[.int .i64 t325, .int .i64 t326] 23 (0, 0))) ∧ Aside0 (wc.heap[gb331]? = some (.cells #[.int .i64 t329, .int .i64 t330] 23 (0, 0))) ∧ Aside0 (Below w.heap.size w wc))
            case first =>
              have H := HC27.out
              clear HC27
              by_cases c41 : t325 > a1
              · rw [if_pos c41] at H
                have c41b0 : decide (a1 < t325) = true := decide_eq_true c41
                clear c41
                (first | rw [c41b0] | (simp only [i64_w, i32_w]; rw [c41b0]) | skip)
                by_cases c42 : t329 ≤ a1
                · rw [if_pos c42] at H
                  have c42b0 : decide (t329 ≤ a1) = true := decide_eq_true c42
                  clear c42
                  replace H := Option.bind_eq_some_iff.mp H
                  obtain ⟨t333, A430, H⟩ := H
                  replace H : (cobwebref11_Wind.j1 k1 a1 x9_1 t321 x11_1 (decide (t333 > 0)) a1 a2 t325 t326 t329 t330) = some (r1, r2) := H
                  have A43 := Aside0.mk A430
                  clear A430
                  have H' := Aside0.mk H
                  clear H
                  have hnb44 := NB327_320.out
                  have hnc44 := NB320_327.out
                  have hnb45 := NB327_331.out
                  have hnc45 := NB331_327.out
                  have hcz46_0 : w40.cell? ⟨gb327, 0, none⟩ = some (.int .i64 t325) := (blk_cell BK327.out 0).trans rfl
                  have hcz46_1 : w40.cell? ⟨gb327, 1, none⟩ = some (.int .i64 t326) := (blk_cell BK327.out 1).trans rfl
                  have hfz46_0 := blk_frozen BK327.out 0
                  have hfz46_1 := blk_frozen BK327.out 1
                  have hnb47 := NB331_320.out
                  have hnc47 := NB320_331.out
                  have hcz48_0 : w40.cell? ⟨gb331, 0, none⟩ = some (.int .i64 t329) := (blk_cell BK331.out 0).trans rfl
                  have hcz48_1 : w40.cell? ⟨gb331, 1, none⟩ = some (.int .i64 t330) := (blk_cell BK331.out 1).trans rfl
                  have hfz48_0 := blk_frozen BK331.out 0
                  have hfz48_1 := blk_frozen BK331.out 1
                  have hcz49_0 : w40.cell? ⟨gb320, 0, none⟩ = some (.int .i64 a1) := (blk_cell BK320.out 0).trans rfl
                  have hcz49_1 : w40.cell? ⟨gb320, 1, none⟩ = some (.int .i64 a2) := (blk_cell BK320.out 1).trans rfl
                  have hfz49_0 := blk_frozen BK320.out 0
                  have hfz49_1 := blk_frozen BK320.out 1
                  go_wp2_with (first | (go_at_call 22; (with_reducible refine (cobwebref04_Cross.calls k1 t325 t326 t329 t330 a1 a2 t333 _ A43.out).mono ?_); rintro e w50 ⟨rfl, hb⟩; have n0_ := Aside0.mk (Kd.R_below (by (with_reducible repeat (first | apply Kd.R_alloc | apply Kd.R_drewN | apply Kd.R_drew)); exact HO_10.out) hb); have n1_ := Aside0.mk (blk_below (g := gb320) (o := .cells #[.int .i64 a1, .int .i64 a2] 23 (0, 0)) (by (with_reducible repeat (first | refine blk_drewN ?_ _ | refine blk_drew ?_ | refine blk_alloc ?_ _)); exact BK320.out) hb); have n2_ := Aside0.mk (blk_below (g := gb327) (o := .cells #[.int .i64 t325, .int .i64 t326] 23 (0, 0)) (by (with_reducible repeat (first | refine blk_drewN ?_ _ | refine blk_drew ?_ | refine blk_alloc ?_ _)); exact BK327.out) hb); have n3_ := Aside0.mk (blk_below (g := gb331) (o := .cells #[.int .i64 t329, .int .i64 t330] 23 (0, 0)) (by (with_reducible repeat (first | refine blk_drewN ?_ _ | refine blk_drew ?_ | refine blk_alloc ?_ _)); exact BK331.out) hb); have n4_ := Aside0.mk (below_step (by repeat (first | (with_reducible first | exact HB.out | apply below_alloc | apply pw_below_drewN | apply below_drew1 | refine below_set ?_ GE320.out | refine below_set ?_ GE327.out | refine below_set ?_ GE331.out) | exact HB.out)) hb); clear HO_10; clear BK320; clear BK327; clear BK331; clear HB; have HO_10 := n0_; have BK320 := n1_; have BK327 := n2_; have BK331 := n3_; have HB := n4_; clear n0_ n1_ n2_ n3_ n4_; (try clear hb); (try clear hb2); (try clear hk); (try clear hi)))
                  go_meet
                  case rel => exact ⟨_, (decide (t333 > 0)), (by first | rfl | (simp; done) | (simp [*]; done)), H', ⟨by have := HK1.out; first | omega | exact Nat.le_refl _⟩, ⟨by (with_reducible repeat (first | apply Kd.R_alloc | apply Kd.R_drewN | apply Kd.R_drew)); exact HO_10.out⟩, ⟨by (with_reducible repeat (first | refine blk_drewN ?_ _ | refine blk_drew ?_ | refine blk_alloc ?_ _)); exact BK320.out⟩, ⟨by (with_reducible repeat (first | refine blk_drewN ?_ _ | refine blk_drew ?_ | refine blk_alloc ?_ _)); exact BK327.out⟩, ⟨by (with_reducible repeat (first | refine blk_drewN ?_ _ | refine blk_drew ?_ | refine blk_alloc ?_ _)); exact BK331.out⟩, ⟨by repeat (first | (with_reducible first | exact HB.out | apply below_alloc | apply pw_below_drewN | apply below_drew1 | refine below_set ?_ GE320.out | refine below_set ?_ GE327.out | refine below_set ?_ GE331.out) | exact HB.out)⟩⟩
                · rw [if_neg c42] at H
                  have c42b0 : decide (t329 ≤ a1) = false := decide_eq_false c42
                  clear c42
                  have H' := Aside0.mk H
                  clear H
                  have hnb51 := NB327_320.out
                  have hnc51 := NB320_327.out
                  have hnb52 := NB327_331.out
                  have hnc52 := NB331_327.out
                  have hcz53_0 : w40.cell? ⟨gb327, 0, none⟩ = some (.int .i64 t325) := (blk_cell BK327.out 0).trans rfl
                  have hcz53_1 : w40.cell? ⟨gb327, 1, none⟩ = some (.int .i64 t326) := (blk_cell BK327.out 1).trans rfl
                  have hfz53_0 := blk_frozen BK327.out 0
                  have hfz53_1 := blk_frozen BK327.out 1
                  have hnb54 := NB331_320.out
                  have hnc54 := NB320_331.out
                  have hcz55_0 : w40.cell? ⟨gb331, 0, none⟩ = some (.int .i64 t329) := (blk_cell BK331.out 0).trans rfl
                  have hcz55_1 : w40.cell? ⟨gb331, 1, none⟩ = some (.int .i64 t330) := (blk_cell BK331.out 1).trans rfl
                  have hfz55_0 := blk_frozen BK331.out 0
                  have hfz55_1 := blk_frozen BK331.out 1
                  go_wp2
                  go_meet
                  case rel => exact ⟨_, (false), (by first | rfl | (simp; done) | (simp [*]; done)), H', ⟨by have := HK1.out; first | omega | exact Nat.le_refl _⟩, ⟨by (with_reducible repeat (first | apply Kd.R_alloc | apply Kd.R_drewN | apply Kd.R_drew)); exact HO_10.out⟩, ⟨by (with_reducible repeat (first | refine blk_drewN ?_ _ | refine blk_drew ?_ | refine blk_alloc ?_ _)); exact BK320.out⟩, ⟨by (with_reducible repeat (first | refine blk_drewN ?_ _ | refine blk_drew ?_ | refine blk_alloc ?_ _)); exact BK327.out⟩, ⟨by (with_reducible repeat (first | refine blk_drewN ?_ _ | refine blk_drew ?_ | refine blk_alloc ?_ _)); exact BK331.out⟩, ⟨by repeat (first | (with_reducible first | exact HB.out | apply below_alloc | apply pw_below_drewN | apply below_drew1 | refine below_set ?_ GE320.out | refine below_set ?_ GE327.out | refine below_set ?_ GE331.out) | exact HB.out)⟩⟩
              · rw [if_neg c41] at H
                have c41b0 : decide (a1 < t325) = false := decide_eq_false c41
                clear c41
                (first | rw [c41b0] | (simp only [i64_w, i32_w]; rw [c41b0]) | skip)
                have H' := Aside0.mk H
                clear H
                have hnb56 := NB327_320.out
                have hnc56 := NB320_327.out
                have hnb57 := NB327_331.out
                have hnc57 := NB331_327.out
                have hcz58_0 : w40.cell? ⟨gb327, 0, none⟩ = some (.int .i64 t325) := (blk_cell BK327.out 0).trans rfl
                have hcz58_1 : w40.cell? ⟨gb327, 1, none⟩ = some (.int .i64 t326) := (blk_cell BK327.out 1).trans rfl
                have hfz58_0 := blk_frozen BK327.out 0
                have hfz58_1 := blk_frozen BK327.out 1
                go_wp2
                go_meet
                case rel => exact ⟨_, (false), (by first | rfl | (simp; done) | (simp [*]; done)), H', ⟨by have := HK1.out; first | omega | exact Nat.le_refl _⟩, ⟨by (with_reducible repeat (first | apply Kd.R_alloc | apply Kd.R_drewN | apply Kd.R_drew)); exact HO_10.out⟩, ⟨by (with_reducible repeat (first | refine blk_drewN ?_ _ | refine blk_drew ?_ | refine blk_alloc ?_ _)); exact BK320.out⟩, ⟨by (with_reducible repeat (first | refine blk_drewN ?_ _ | refine blk_drew ?_ | refine blk_alloc ?_ _)); exact BK327.out⟩, ⟨by (with_reducible repeat (first | refine blk_drewN ?_ _ | refine blk_drew ?_ | refine blk_alloc ?_ _)); exact BK331.out⟩, ⟨by repeat (first | (with_reducible first | exact HB.out | apply below_alloc | apply pw_below_drewN | apply below_drew1 | refine below_set ?_ GE320.out | refine below_set ?_ GE327.out | refine below_set ?_ GE331.out) | exact HB.out)⟩⟩
            case rest =>
              clear HC27
              try clear c1
              try clear c2
              try clear p2
              try clear c3
              try clear p3
              try clear q3
              try clear hx3
              try clear c4
              try clear c5
              try clear c6
              try clear c8
              try clear c8b0
              try clear c9
              try clear c9b0
              try clear c13
              try clear c17
              try clear c21
              try clear c22
              try clear c27
              try clear c31
              try clear p32
              try clear q32
              try clear hx32
              try clear c35
              try clear c36
              try clear c41
              try clear c41b0
              try clear c42
              try clear c42b0
              try clear c44
              try clear c45
              try clear c47
              try clear c51
              try clear c52
              try clear c54
              try clear c56
              try clear c57
              try clear hcz18_0
              try clear hcz18_1
              try clear hcz23_0
              try clear hcz23_1
              try clear hcz24_0
              try clear hcz24_1
              try clear hcz25_0
              try clear hcz25_1
              try clear hcz32_0
              try clear hcz32_1
              try clear hcz37_0
              try clear hcz37_1
              try clear hcz38_0
              try clear hcz38_1
              try clear hcz39_0
              try clear hcz39_1
              try clear hcz46_0
              try clear hcz46_1
              try clear hcz48_0
              try clear hcz48_1
              try clear hcz49_0
              try clear hcz49_1
              try clear hcz53_0
              try clear hcz53_1
              try clear hcz55_0
              try clear hcz55_1
              try clear hcz58_0
              try clear hcz58_1
              try clear hcz6_0
              try clear hcz6_1
              try clear hfz18_0
              try clear hfz18_1
              try clear hfz23_0
              try clear hfz23_1
              try clear hfz24_0
              try clear hfz24_1
              try clear hfz25_0
              try clear hfz25_1
              try clear hfz32_0
              try clear hfz32_1
              try clear hfz37_0
              try clear hfz37_1
              try clear hfz38_0
              try clear hfz38_1
              try clear hfz39_0
              try clear hfz39_1
              try clear hfz46_0
              try clear hfz46_1
              try clear hfz48_0
              try clear hfz48_1
              try clear hfz49_0
              try clear hfz49_1
              try clear hfz53_0
              try clear hfz53_1
              try clear hfz55_0
              try clear hfz55_1
              try clear hfz58_0
              try clear hfz58_1
              try clear hfz6_0
              try clear hfz6_1
              try clear hx324_0
              try clear hx324_1
              try clear hx324_2
              try clear hx324_3
              try clear hx324_4
              try clear hx328_0
              try clear hx328_1
              try clear hx328_2
              try clear hx328_3
              try clear hx328_4
              try clear p2
              try clear p324
              try clear p328
              try clear q324
              try clear q328
              obtain ⟨kq, x57_26, rfl, HA, HJ26, HO_10, BK320, BK327, BK331, HB⟩ := hcut
              cases kq with
              | zero => exact absurd HA.out (by simp [cobwebref11_Wind.j1])
              | succ kj26 =>
                have H := HA.out
                clear HA
                simp only [cobwebref11_Wind.j1] at H
                by_cases c59 : x57_26 = true
                · subst c59
                  have H1 : (if t329 > a1 then (if t325 ≤ a1 then ((cobwebref04_Cross.f kj26 t325 t326 t329 t330 a1 a2).bind fun t334 => (if t334 < 0 then (cobwebref11_Wind.l0 kj26 a1 (wrap64 ((wrap64 (x9_1 + 1)) - 1)) t321 (wrap64 (x11_1 + 1)) a1 a2) else (cobwebref11_Wind.l0 kj26 a1 (wrap64 (x9_1 + 1)) t321 (wrap64 (x11_1 + 1)) a1 a2))) else (cobwebref11_Wind.l0 kj26 a1 (wrap64 (x9_1 + 1)) t321 (wrap64 (x11_1 + 1)) a1 a2)) else (cobwebref11_Wind.l0 kj26 a1 (wrap64 (x9_1 + 1)) t321 (wrap64 (x11_1 + 1)) a1 a2)) = some (r1, r2) := by rw [if_pos rfl] at H; exact H
                  clear H
                  have H := H1
                  clear H1
                  by_cases c60 : t329 > a1
                  · rw [if_pos c60] at H
                    have c60b0 : decide (a1 < t329) = true := decide_eq_true c60
                    clear c60
                    by_cases c61 : t325 ≤ a1
                    · rw [if_pos c61] at H
                      have c61b0 : decide (t325 ≤ a1) = true := decide_eq_true c61
                      clear c61
                      replace H := Option.bind_eq_some_iff.mp H
                      obtain ⟨t334, A620, H⟩ := H
                      replace H : (if t334 < 0 then (cobwebref11_Wind.l0 kj26 a1 (wrap64 ((wrap64 (x9_1 + 1)) - 1)) t321 (wrap64 (x11_1 + 1)) a1 a2) else (cobwebref11_Wind.l0 kj26 a1 (wrap64 (x9_1 + 1)) t321 (wrap64 (x11_1 + 1)) a1 a2)) = some (r1, r2) := H
                      have A62 := Aside0.mk A620
                      clear A620
                      by_cases c63 : t334 < 0
                      · rw [if_pos c63] at H
                        have c63b0 : decide (t334 < 0) = true := decide_eq_true c63
                        clear c63
                        have H' := Aside0.mk H
                        clear H
                        have hnb64 := NB331_320.out
                        have hnc64 := NB320_331.out
                        have hnb65 := NB331_327.out
                        have hnc65 := NB327_331.out
                        have hcz66_0 : wc.cell? ⟨gb331, 0, none⟩ = some (.int .i64 t329) := (blk_cell BK331.out 0).trans rfl
                        have hcz66_1 : wc.cell? ⟨gb331, 1, none⟩ = some (.int .i64 t330) := (blk_cell BK331.out 1).trans rfl
                        have hfz66_0 := blk_frozen BK331.out 0
                        have hfz66_1 := blk_frozen BK331.out 1
                        have hnb67 := NB327_320.out
                        have hnc67 := NB320_327.out
                        have hcz68_0 : wc.cell? ⟨gb327, 0, none⟩ = some (.int .i64 t325) := (blk_cell BK327.out 0).trans rfl
                        have hcz68_1 : wc.cell? ⟨gb327, 1, none⟩ = some (.int .i64 t326) := (blk_cell BK327.out 1).trans rfl
                        have hfz68_0 := blk_frozen BK327.out 0
                        have hfz68_1 := blk_frozen BK327.out 1
                        have hcz69_0 : wc.cell? ⟨gb320, 0, none⟩ = some (.int .i64 a1) := (blk_cell BK320.out 0).trans rfl
                        have hcz69_1 : wc.cell? ⟨gb320, 1, none⟩ = some (.int .i64 a2) := (blk_cell BK320.out 1).trans rfl
                        have hfz69_0 := blk_frozen BK320.out 0
                        have hfz69_1 := blk_frozen BK320.out 1
                        go_wp2_with (first | (go_at_call 22; (with_reducible refine (cobwebref04_Cross.calls kj26 t325 t326 t329 t330 a1 a2 t334 _ A62.out).mono ?_); rintro e w70 ⟨rfl, hb⟩; have n0_ := Aside0.mk (Kd.R_below (by (with_reducible repeat (first | apply Kd.R_alloc | apply Kd.R_drewN | apply Kd.R_drew)); exact HO_10.out) hb); have n1_ := Aside0.mk (blk_below (g := gb320) (o := .cells #[.int .i64 a1, .int .i64 a2] 23 (0, 0)) (by (with_reducible repeat (first | refine blk_drewN ?_ _ | refine blk_drew ?_ | refine blk_alloc ?_ _)); exact BK320.out) hb); have n2_ := Aside0.mk (blk_below (g := gb327) (o := .cells #[.int .i64 t325, .int .i64 t326] 23 (0, 0)) (by (with_reducible repeat (first | refine blk_drewN ?_ _ | refine blk_drew ?_ | refine blk_alloc ?_ _)); exact BK327.out) hb); have n3_ := Aside0.mk (blk_below (g := gb331) (o := .cells #[.int .i64 t329, .int .i64 t330] 23 (0, 0)) (by (with_reducible repeat (first | refine blk_drewN ?_ _ | refine blk_drew ?_ | refine blk_alloc ?_ _)); exact BK331.out) hb); have n4_ := Aside0.mk (below_step (by repeat (first | (with_reducible first | exact HB.out | apply below_alloc | apply pw_below_drewN | apply below_drew1 | refine below_set ?_ GE320.out | refine below_set ?_ GE327.out | refine below_set ?_ GE331.out) | exact HB.out)) hb); clear HO_10; clear BK320; clear BK327; clear BK331; clear HB; have HO_10 := n0_; have BK320 := n1_; have BK327 := n2_; have BK331 := n3_; have HB := n4_; clear n0_ n1_ n2_ n3_ n4_; (try clear hb); (try clear hb2); (try clear hk); (try clear hi)))
                        go_roundg kj26
                        case measure => have := HK1.out; have := HJ26.out; omega
                        case rel => exact ⟨(wrap64 ((wrap64 (x9_1 + 1)) - 1)), (wrap64 (x11_1 + 1)), (by first | rfl | (simp; done) | (simp [*]; done)), (by first | rfl | (simp; done) | (simp [*]; done)), H', ⟨by have := HK1.out; have := HJ26.out; omega⟩, ⟨by (with_reducible repeat (first | apply Kd.R_alloc | apply Kd.R_drewN | apply Kd.R_drew)); exact HO_10.out⟩, ⟨by (with_reducible repeat (first | refine blk_drewN ?_ _ | refine blk_drew ?_ | refine blk_alloc ?_ _)); exact BK320.out⟩, ⟨by repeat (first | (with_reducible first | exact HB.out | apply below_alloc | apply pw_below_drewN | apply below_drew1 | refine below_set ?_ GE320.out | refine below_set ?_ GE327.out | refine below_set ?_ GE331.out) | exact HB.out)⟩⟩
                      · rw [if_neg c63] at H
                        have c63b0 : decide (t334 < 0) = false := decide_eq_false c63
                        clear c63
                        have H' := Aside0.mk H
                        clear H
                        have hnb71 := NB331_320.out
                        have hnc71 := NB320_331.out
                        have hnb72 := NB331_327.out
                        have hnc72 := NB327_331.out
                        have hcz73_0 : wc.cell? ⟨gb331, 0, none⟩ = some (.int .i64 t329) := (blk_cell BK331.out 0).trans rfl
                        have hcz73_1 : wc.cell? ⟨gb331, 1, none⟩ = some (.int .i64 t330) := (blk_cell BK331.out 1).trans rfl
                        have hfz73_0 := blk_frozen BK331.out 0
                        have hfz73_1 := blk_frozen BK331.out 1
                        have hnb74 := NB327_320.out
                        have hnc74 := NB320_327.out
                        have hcz75_0 : wc.cell? ⟨gb327, 0, none⟩ = some (.int .i64 t325) := (blk_cell BK327.out 0).trans rfl
                        have hcz75_1 : wc.cell? ⟨gb327, 1, none⟩ = some (.int .i64 t326) := (blk_cell BK327.out 1).trans rfl
                        have hfz75_0 := blk_frozen BK327.out 0
                        have hfz75_1 := blk_frozen BK327.out 1
                        have hcz76_0 : wc.cell? ⟨gb320, 0, none⟩ = some (.int .i64 a1) := (blk_cell BK320.out 0).trans rfl
                        have hcz76_1 : wc.cell? ⟨gb320, 1, none⟩ = some (.int .i64 a2) := (blk_cell BK320.out 1).trans rfl
                        have hfz76_0 := blk_frozen BK320.out 0
                        have hfz76_1 := blk_frozen BK320.out 1
                        go_wp2_with (first | (go_at_call 22; (with_reducible refine (cobwebref04_Cross.calls kj26 t325 t326 t329 t330 a1 a2 t334 _ A62.out).mono ?_); rintro e w77 ⟨rfl, hb⟩; have n0_ := Aside0.mk (Kd.R_below (by (with_reducible repeat (first | apply Kd.R_alloc | apply Kd.R_drewN | apply Kd.R_drew)); exact HO_10.out) hb); have n1_ := Aside0.mk (blk_below (g := gb320) (o := .cells #[.int .i64 a1, .int .i64 a2] 23 (0, 0)) (by (with_reducible repeat (first | refine blk_drewN ?_ _ | refine blk_drew ?_ | refine blk_alloc ?_ _)); exact BK320.out) hb); have n2_ := Aside0.mk (blk_below (g := gb327) (o := .cells #[.int .i64 t325, .int .i64 t326] 23 (0, 0)) (by (with_reducible repeat (first | refine blk_drewN ?_ _ | refine blk_drew ?_ | refine blk_alloc ?_ _)); exact BK327.out) hb); have n3_ := Aside0.mk (blk_below (g := gb331) (o := .cells #[.int .i64 t329, .int .i64 t330] 23 (0, 0)) (by (with_reducible repeat (first | refine blk_drewN ?_ _ | refine blk_drew ?_ | refine blk_alloc ?_ _)); exact BK331.out) hb); have n4_ := Aside0.mk (below_step (by repeat (first | (with_reducible first | exact HB.out | apply below_alloc | apply pw_below_drewN | apply below_drew1 | refine below_set ?_ GE320.out | refine below_set ?_ GE327.out | refine below_set ?_ GE331.out) | exact HB.out)) hb); clear HO_10; clear BK320; clear BK327; clear BK331; clear HB; have HO_10 := n0_; have BK320 := n1_; have BK327 := n2_; have BK331 := n3_; have HB := n4_; clear n0_ n1_ n2_ n3_ n4_; (try clear hb); (try clear hb2); (try clear hk); (try clear hi)))
                        go_roundg kj26
                        case measure => have := HK1.out; have := HJ26.out; omega
                        case rel => exact ⟨(wrap64 (x9_1 + 1)), (wrap64 (x11_1 + 1)), (by first | rfl | (simp; done) | (simp [*]; done)), (by first | rfl | (simp; done) | (simp [*]; done)), H', ⟨by have := HK1.out; have := HJ26.out; omega⟩, ⟨by (with_reducible repeat (first | apply Kd.R_alloc | apply Kd.R_drewN | apply Kd.R_drew)); exact HO_10.out⟩, ⟨by (with_reducible repeat (first | refine blk_drewN ?_ _ | refine blk_drew ?_ | refine blk_alloc ?_ _)); exact BK320.out⟩, ⟨by repeat (first | (with_reducible first | exact HB.out | apply below_alloc | apply pw_below_drewN | apply below_drew1 | refine below_set ?_ GE320.out | refine below_set ?_ GE327.out | refine below_set ?_ GE331.out) | exact HB.out)⟩⟩
                    · rw [if_neg c61] at H
                      have c61b0 : decide (t325 ≤ a1) = false := decide_eq_false c61
                      clear c61
                      have H' := Aside0.mk H
                      clear H
                      have hnb78 := NB331_320.out
                      have hnc78 := NB320_331.out
                      have hnb79 := NB331_327.out
                      have hnc79 := NB327_331.out
                      have hcz80_0 : wc.cell? ⟨gb331, 0, none⟩ = some (.int .i64 t329) := (blk_cell BK331.out 0).trans rfl
                      have hcz80_1 : wc.cell? ⟨gb331, 1, none⟩ = some (.int .i64 t330) := (blk_cell BK331.out 1).trans rfl
                      have hfz80_0 := blk_frozen BK331.out 0
                      have hfz80_1 := blk_frozen BK331.out 1
                      have hnb81 := NB327_320.out
                      have hnc81 := NB320_327.out
                      have hcz82_0 : wc.cell? ⟨gb327, 0, none⟩ = some (.int .i64 t325) := (blk_cell BK327.out 0).trans rfl
                      have hcz82_1 : wc.cell? ⟨gb327, 1, none⟩ = some (.int .i64 t326) := (blk_cell BK327.out 1).trans rfl
                      have hfz82_0 := blk_frozen BK327.out 0
                      have hfz82_1 := blk_frozen BK327.out 1
                      go_wp2
                      go_roundg kj26
                      case measure => have := HK1.out; have := HJ26.out; omega
                      case rel => exact ⟨(wrap64 (x9_1 + 1)), (wrap64 (x11_1 + 1)), (by first | rfl | (simp; done) | (simp [*]; done)), (by first | rfl | (simp; done) | (simp [*]; done)), H', ⟨by have := HK1.out; have := HJ26.out; omega⟩, ⟨by (with_reducible repeat (first | apply Kd.R_alloc | apply Kd.R_drewN | apply Kd.R_drew)); exact HO_10.out⟩, ⟨by (with_reducible repeat (first | refine blk_drewN ?_ _ | refine blk_drew ?_ | refine blk_alloc ?_ _)); exact BK320.out⟩, ⟨by repeat (first | (with_reducible first | exact HB.out | apply below_alloc | apply pw_below_drewN | apply below_drew1 | refine below_set ?_ GE320.out | refine below_set ?_ GE327.out | refine below_set ?_ GE331.out) | exact HB.out)⟩⟩
                  · rw [if_neg c60] at H
                    have c60b0 : decide (a1 < t329) = false := decide_eq_false c60
                    clear c60
                    have H' := Aside0.mk H
                    clear H
                    have hnb83 := NB331_320.out
                    have hnc83 := NB320_331.out
                    have hnb84 := NB331_327.out
                    have hnc84 := NB327_331.out
                    have hcz85_0 : wc.cell? ⟨gb331, 0, none⟩ = some (.int .i64 t329) := (blk_cell BK331.out 0).trans rfl
                    have hcz85_1 : wc.cell? ⟨gb331, 1, none⟩ = some (.int .i64 t330) := (blk_cell BK331.out 1).trans rfl
                    have hfz85_0 := blk_frozen BK331.out 0
                    have hfz85_1 := blk_frozen BK331.out 1
                    go_wp2
                    go_roundg kj26
                    case measure => have := HK1.out; have := HJ26.out; omega
                    case rel => exact ⟨(wrap64 (x9_1 + 1)), (wrap64 (x11_1 + 1)), (by first | rfl | (simp; done) | (simp [*]; done)), (by first | rfl | (simp; done) | (simp [*]; done)), H', ⟨by have := HK1.out; have := HJ26.out; omega⟩, ⟨by (with_reducible repeat (first | apply Kd.R_alloc | apply Kd.R_drewN | apply Kd.R_drew)); exact HO_10.out⟩, ⟨by (with_reducible repeat (first | refine blk_drewN ?_ _ | refine blk_drew ?_ | refine blk_alloc ?_ _)); exact BK320.out⟩, ⟨by repeat (first | (with_reducible first | exact HB.out | apply below_alloc | apply pw_below_drewN | apply below_drew1 | refine below_set ?_ GE320.out | refine below_set ?_ GE327.out | refine below_set ?_ GE331.out) | exact HB.out)⟩⟩
                · replace c59 := Bool.eq_false_iff.mpr c59
                  subst c59
                  have H1 : (if t329 > a1 then (if t325 ≤ a1 then ((cobwebref04_Cross.f kj26 t325 t326 t329 t330 a1 a2).bind fun t335 => (if t335 < 0 then (cobwebref11_Wind.l0 kj26 a1 (wrap64 (x9_1 - 1)) t321 (wrap64 (x11_1 + 1)) a1 a2) else (cobwebref11_Wind.l0 kj26 a1 x9_1 t321 (wrap64 (x11_1 + 1)) a1 a2))) else (cobwebref11_Wind.l0 kj26 a1 x9_1 t321 (wrap64 (x11_1 + 1)) a1 a2)) else (cobwebref11_Wind.l0 kj26 a1 x9_1 t321 (wrap64 (x11_1 + 1)) a1 a2)) = some (r1, r2) := by rw [if_neg (show ¬ (false = true) by decide)] at H; exact H
                  clear H
                  have H := H1
                  clear H1
                  by_cases c86 : t329 > a1
                  · rw [if_pos c86] at H
                    have c86b0 : decide (a1 < t329) = true := decide_eq_true c86
                    clear c86
                    by_cases c87 : t325 ≤ a1
                    · rw [if_pos c87] at H
                      have c87b0 : decide (t325 ≤ a1) = true := decide_eq_true c87
                      clear c87
                      replace H := Option.bind_eq_some_iff.mp H
                      obtain ⟨t335, A880, H⟩ := H
                      replace H : (if t335 < 0 then (cobwebref11_Wind.l0 kj26 a1 (wrap64 (x9_1 - 1)) t321 (wrap64 (x11_1 + 1)) a1 a2) else (cobwebref11_Wind.l0 kj26 a1 x9_1 t321 (wrap64 (x11_1 + 1)) a1 a2)) = some (r1, r2) := H
                      have A88 := Aside0.mk A880
                      clear A880
                      by_cases c89 : t335 < 0
                      · rw [if_pos c89] at H
                        have c89b0 : decide (t335 < 0) = true := decide_eq_true c89
                        clear c89
                        have H' := Aside0.mk H
                        clear H
                        have hnb90 := NB331_320.out
                        have hnc90 := NB320_331.out
                        have hnb91 := NB331_327.out
                        have hnc91 := NB327_331.out
                        have hcz92_0 : wc.cell? ⟨gb331, 0, none⟩ = some (.int .i64 t329) := (blk_cell BK331.out 0).trans rfl
                        have hcz92_1 : wc.cell? ⟨gb331, 1, none⟩ = some (.int .i64 t330) := (blk_cell BK331.out 1).trans rfl
                        have hfz92_0 := blk_frozen BK331.out 0
                        have hfz92_1 := blk_frozen BK331.out 1
                        have hnb93 := NB327_320.out
                        have hnc93 := NB320_327.out
                        have hcz94_0 : wc.cell? ⟨gb327, 0, none⟩ = some (.int .i64 t325) := (blk_cell BK327.out 0).trans rfl
                        have hcz94_1 : wc.cell? ⟨gb327, 1, none⟩ = some (.int .i64 t326) := (blk_cell BK327.out 1).trans rfl
                        have hfz94_0 := blk_frozen BK327.out 0
                        have hfz94_1 := blk_frozen BK327.out 1
                        have hcz95_0 : wc.cell? ⟨gb320, 0, none⟩ = some (.int .i64 a1) := (blk_cell BK320.out 0).trans rfl
                        have hcz95_1 : wc.cell? ⟨gb320, 1, none⟩ = some (.int .i64 a2) := (blk_cell BK320.out 1).trans rfl
                        have hfz95_0 := blk_frozen BK320.out 0
                        have hfz95_1 := blk_frozen BK320.out 1
                        go_wp2_with (first | (go_at_call 22; (with_reducible refine (cobwebref04_Cross.calls kj26 t325 t326 t329 t330 a1 a2 t335 _ A88.out).mono ?_); rintro e w96 ⟨rfl, hb⟩; have n0_ := Aside0.mk (Kd.R_below (by (with_reducible repeat (first | apply Kd.R_alloc | apply Kd.R_drewN | apply Kd.R_drew)); exact HO_10.out) hb); have n1_ := Aside0.mk (blk_below (g := gb320) (o := .cells #[.int .i64 a1, .int .i64 a2] 23 (0, 0)) (by (with_reducible repeat (first | refine blk_drewN ?_ _ | refine blk_drew ?_ | refine blk_alloc ?_ _)); exact BK320.out) hb); have n2_ := Aside0.mk (blk_below (g := gb327) (o := .cells #[.int .i64 t325, .int .i64 t326] 23 (0, 0)) (by (with_reducible repeat (first | refine blk_drewN ?_ _ | refine blk_drew ?_ | refine blk_alloc ?_ _)); exact BK327.out) hb); have n3_ := Aside0.mk (blk_below (g := gb331) (o := .cells #[.int .i64 t329, .int .i64 t330] 23 (0, 0)) (by (with_reducible repeat (first | refine blk_drewN ?_ _ | refine blk_drew ?_ | refine blk_alloc ?_ _)); exact BK331.out) hb); have n4_ := Aside0.mk (below_step (by repeat (first | (with_reducible first | exact HB.out | apply below_alloc | apply pw_below_drewN | apply below_drew1 | refine below_set ?_ GE320.out | refine below_set ?_ GE327.out | refine below_set ?_ GE331.out) | exact HB.out)) hb); clear HO_10; clear BK320; clear BK327; clear BK331; clear HB; have HO_10 := n0_; have BK320 := n1_; have BK327 := n2_; have BK331 := n3_; have HB := n4_; clear n0_ n1_ n2_ n3_ n4_; (try clear hb); (try clear hb2); (try clear hk); (try clear hi)))
                        go_roundg kj26
                        case measure => have := HK1.out; have := HJ26.out; omega
                        case rel => exact ⟨(wrap64 (x9_1 - 1)), (wrap64 (x11_1 + 1)), (by first | rfl | (simp; done) | (simp [*]; done)), (by first | rfl | (simp; done) | (simp [*]; done)), H', ⟨by have := HK1.out; have := HJ26.out; omega⟩, ⟨by (with_reducible repeat (first | apply Kd.R_alloc | apply Kd.R_drewN | apply Kd.R_drew)); exact HO_10.out⟩, ⟨by (with_reducible repeat (first | refine blk_drewN ?_ _ | refine blk_drew ?_ | refine blk_alloc ?_ _)); exact BK320.out⟩, ⟨by repeat (first | (with_reducible first | exact HB.out | apply below_alloc | apply pw_below_drewN | apply below_drew1 | refine below_set ?_ GE320.out | refine below_set ?_ GE327.out | refine below_set ?_ GE331.out) | exact HB.out)⟩⟩
                      · rw [if_neg c89] at H
                        have c89b0 : decide (t335 < 0) = false := decide_eq_false c89
                        clear c89
                        have H' := Aside0.mk H
                        clear H
                        have hnb97 := NB331_320.out
                        have hnc97 := NB320_331.out
                        have hnb98 := NB331_327.out
                        have hnc98 := NB327_331.out
                        have hcz99_0 : wc.cell? ⟨gb331, 0, none⟩ = some (.int .i64 t329) := (blk_cell BK331.out 0).trans rfl
                        have hcz99_1 : wc.cell? ⟨gb331, 1, none⟩ = some (.int .i64 t330) := (blk_cell BK331.out 1).trans rfl
                        have hfz99_0 := blk_frozen BK331.out 0
                        have hfz99_1 := blk_frozen BK331.out 1
                        have hnb100 := NB327_320.out
                        have hnc100 := NB320_327.out
                        have hcz101_0 : wc.cell? ⟨gb327, 0, none⟩ = some (.int .i64 t325) := (blk_cell BK327.out 0).trans rfl
                        have hcz101_1 : wc.cell? ⟨gb327, 1, none⟩ = some (.int .i64 t326) := (blk_cell BK327.out 1).trans rfl
                        have hfz101_0 := blk_frozen BK327.out 0
                        have hfz101_1 := blk_frozen BK327.out 1
                        have hcz102_0 : wc.cell? ⟨gb320, 0, none⟩ = some (.int .i64 a1) := (blk_cell BK320.out 0).trans rfl
                        have hcz102_1 : wc.cell? ⟨gb320, 1, none⟩ = some (.int .i64 a2) := (blk_cell BK320.out 1).trans rfl
                        have hfz102_0 := blk_frozen BK320.out 0
                        have hfz102_1 := blk_frozen BK320.out 1
                        go_wp2_with (first | (go_at_call 22; (with_reducible refine (cobwebref04_Cross.calls kj26 t325 t326 t329 t330 a1 a2 t335 _ A88.out).mono ?_); rintro e w103 ⟨rfl, hb⟩; have n0_ := Aside0.mk (Kd.R_below (by (with_reducible repeat (first | apply Kd.R_alloc | apply Kd.R_drewN | apply Kd.R_drew)); exact HO_10.out) hb); have n1_ := Aside0.mk (blk_below (g := gb320) (o := .cells #[.int .i64 a1, .int .i64 a2] 23 (0, 0)) (by (with_reducible repeat (first | refine blk_drewN ?_ _ | refine blk_drew ?_ | refine blk_alloc ?_ _)); exact BK320.out) hb); have n2_ := Aside0.mk (blk_below (g := gb327) (o := .cells #[.int .i64 t325, .int .i64 t326] 23 (0, 0)) (by (with_reducible repeat (first | refine blk_drewN ?_ _ | refine blk_drew ?_ | refine blk_alloc ?_ _)); exact BK327.out) hb); have n3_ := Aside0.mk (blk_below (g := gb331) (o := .cells #[.int .i64 t329, .int .i64 t330] 23 (0, 0)) (by (with_reducible repeat (first | refine blk_drewN ?_ _ | refine blk_drew ?_ | refine blk_alloc ?_ _)); exact BK331.out) hb); have n4_ := Aside0.mk (below_step (by repeat (first | (with_reducible first | exact HB.out | apply below_alloc | apply pw_below_drewN | apply below_drew1 | refine below_set ?_ GE320.out | refine below_set ?_ GE327.out | refine below_set ?_ GE331.out) | exact HB.out)) hb); clear HO_10; clear BK320; clear BK327; clear BK331; clear HB; have HO_10 := n0_; have BK320 := n1_; have BK327 := n2_; have BK331 := n3_; have HB := n4_; clear n0_ n1_ n2_ n3_ n4_; (try clear hb); (try clear hb2); (try clear hk); (try clear hi)))
                        go_roundg kj26
                        case measure => have := HK1.out; have := HJ26.out; omega
                        case rel => exact ⟨(x9_1), (wrap64 (x11_1 + 1)), (by first | rfl | (simp; done) | (simp [*]; done)), (by first | rfl | (simp; done) | (simp [*]; done)), H', ⟨by have := HK1.out; have := HJ26.out; omega⟩, ⟨by (with_reducible repeat (first | apply Kd.R_alloc | apply Kd.R_drewN | apply Kd.R_drew)); exact HO_10.out⟩, ⟨by (with_reducible repeat (first | refine blk_drewN ?_ _ | refine blk_drew ?_ | refine blk_alloc ?_ _)); exact BK320.out⟩, ⟨by repeat (first | (with_reducible first | exact HB.out | apply below_alloc | apply pw_below_drewN | apply below_drew1 | refine below_set ?_ GE320.out | refine below_set ?_ GE327.out | refine below_set ?_ GE331.out) | exact HB.out)⟩⟩
                    · rw [if_neg c87] at H
                      have c87b0 : decide (t325 ≤ a1) = false := decide_eq_false c87
                      clear c87
                      have H' := Aside0.mk H
                      clear H
                      have hnb104 := NB331_320.out
                      have hnc104 := NB320_331.out
                      have hnb105 := NB331_327.out
                      have hnc105 := NB327_331.out
                      have hcz106_0 : wc.cell? ⟨gb331, 0, none⟩ = some (.int .i64 t329) := (blk_cell BK331.out 0).trans rfl
                      have hcz106_1 : wc.cell? ⟨gb331, 1, none⟩ = some (.int .i64 t330) := (blk_cell BK331.out 1).trans rfl
                      have hfz106_0 := blk_frozen BK331.out 0
                      have hfz106_1 := blk_frozen BK331.out 1
                      have hnb107 := NB327_320.out
                      have hnc107 := NB320_327.out
                      have hcz108_0 : wc.cell? ⟨gb327, 0, none⟩ = some (.int .i64 t325) := (blk_cell BK327.out 0).trans rfl
                      have hcz108_1 : wc.cell? ⟨gb327, 1, none⟩ = some (.int .i64 t326) := (blk_cell BK327.out 1).trans rfl
                      have hfz108_0 := blk_frozen BK327.out 0
                      have hfz108_1 := blk_frozen BK327.out 1
                      go_wp2
                      go_roundg kj26
                      case measure => have := HK1.out; have := HJ26.out; omega
                      case rel => exact ⟨(x9_1), (wrap64 (x11_1 + 1)), (by first | rfl | (simp; done) | (simp [*]; done)), (by first | rfl | (simp; done) | (simp [*]; done)), H', ⟨by have := HK1.out; have := HJ26.out; omega⟩, ⟨by (with_reducible repeat (first | apply Kd.R_alloc | apply Kd.R_drewN | apply Kd.R_drew)); exact HO_10.out⟩, ⟨by (with_reducible repeat (first | refine blk_drewN ?_ _ | refine blk_drew ?_ | refine blk_alloc ?_ _)); exact BK320.out⟩, ⟨by repeat (first | (with_reducible first | exact HB.out | apply below_alloc | apply pw_below_drewN | apply below_drew1 | refine below_set ?_ GE320.out | refine below_set ?_ GE327.out | refine below_set ?_ GE331.out) | exact HB.out)⟩⟩
                  · rw [if_neg c86] at H
                    have c86b0 : decide (a1 < t329) = false := decide_eq_false c86
                    clear c86
                    have H' := Aside0.mk H
                    clear H
                    have hnb109 := NB331_320.out
                    have hnc109 := NB320_331.out
                    have hnb110 := NB331_327.out
                    have hnc110 := NB327_331.out
                    have hcz111_0 : wc.cell? ⟨gb331, 0, none⟩ = some (.int .i64 t329) := (blk_cell BK331.out 0).trans rfl
                    have hcz111_1 : wc.cell? ⟨gb331, 1, none⟩ = some (.int .i64 t330) := (blk_cell BK331.out 1).trans rfl
                    have hfz111_0 := blk_frozen BK331.out 0
                    have hfz111_1 := blk_frozen BK331.out 1
                    go_wp2
                    go_roundg kj26
                    case measure => have := HK1.out; have := HJ26.out; omega
                    case rel => exact ⟨(x9_1), (wrap64 (x11_1 + 1)), (by first | rfl | (simp; done) | (simp [*]; done)), (by first | rfl | (simp; done) | (simp [*]; done)), H', ⟨by have := HK1.out; have := HJ26.out; omega⟩, ⟨by (with_reducible repeat (first | apply Kd.R_alloc | apply Kd.R_drewN | apply Kd.R_drew)); exact HO_10.out⟩, ⟨by (with_reducible repeat (first | refine blk_drewN ?_ _ | refine blk_drew ?_ | refine blk_alloc ?_ _)); exact BK320.out⟩, ⟨by repeat (first | (with_reducible first | exact HB.out | apply below_alloc | apply pw_below_drewN | apply below_drew1 | refine below_set ?_ GE320.out | refine below_set ?_ GE327.out | refine below_set ?_ GE331.out) | exact HB.out)⟩⟩
        · rw [if_neg c9] at H
          exact absurd H (by simp)
      · rw [if_neg c8] at H
        have c8b0 : decide (x11_1 < (t321.length : Int)) = false := decide_eq_false c8
        clear c8
        simp only [Option.some.injEq, Prod.mk.injEq] at H
        obtain ⟨rfl, rfl⟩ := H
        obtain ⟨Ao112, co112, eo112⟩ := Kd.R_slice HO_10.out
        subst eo112
        go_wp2
        go_ret2
        exact ⟨by first | rfl | (simp [errW_none, errW_some] <;> rfl) | (simp [*, errW_none, errW_some] <;> rfl), by repeat (first | (with_reducible first | exact HB.out | apply below_alloc | apply pw_below_drewN | apply below_drew1 | refine below_set ?_ GE320.out) | exact HB.out)⟩

-- NOT PRINTED: function 16 (cobweblaw11_InputWinds)

-- NOT PRINTED: function 17 (cobweblaw11_InputTurned)

end Go.Proofs.Ytpfgjagpaddcpaa.X

/-! The references of the plane: they answer as the plane does. -/
namespace Go.Proofs.Ytpfgjagpaddcpaa.Own
open Go.RowKit Go.Proofs.YtpfgjagpaddcpaaW.PrintWords Go.Proofs.YtpfgjagpaddcpaaW.PrintLast Go.Proofs.YtpfgjagpaddcpaaW.PrintMore
open Go.Proofs.Ytpfgjagpaddcpaa.X
set_option linter.unusedVariables false
set_option linter.unusedSimpArgs false

theorem mul_bd' {a b : Int} (ha : -536870912 ≤ a ∧ a ≤ 536870912) (hb : -536870912 ≤ b ∧ b ≤ 536870912) : -288230376151711744 ≤ a * b ∧ a * b ≤ 288230376151711744 := by
  have h1 : a.natAbs * b.natAbs ≤ 536870912 * 536870912 := Nat.mul_le_mul (by omega) (by omega)
  have h2 := Int.natAbs_mul a b
  omega

theorem det_eq {ax ay bx by_ : Int} (ha : rightB ax ay = true) (hb : rightB bx by_ = true) : cobwebref04_det.f ax ay bx by_ = some (ax * by_ - ay * bx) ∧ -576460752303423488 ≤ ax * by_ - ay * bx ∧ ax * by_ - ay * bx ≤ 576460752303423488 := by
  rw [rightB_iff] at ha hb
  have m1 := mul_bd' (a := ax) (b := by_) (by omega) (by omega)
  have m2 := mul_bd' (a := ay) (b := bx) (by omega) (by omega)
  unfold cobwebref04_det.f
  generalize ax * by_ = p at *
  generalize ay * bx = q at *
  have e1 : wrap64 p = p := by unfold wrap64; omega
  have e2 : wrap64 q = q := by unfold wrap64; omega
  rw [e1, e2]
  have e3 : wrap64 (p - q) = p - q := by unfold wrap64; omega
  rw [e3]
  exact ⟨rfl, by omega, by omega⟩

theorem refCross_f (k : Nat) (ox oy ax ay bx by_ : Int) : cobwebref04_Cross.f (k + 1) ox oy ax ay bx by_ = some (crossB ox oy ax ay bx by_) := by
  unfold cobwebref04_Cross.f crossB
  simp only [refRight_f, Option.bind_some]
  cases h1 : rightB ox oy with
  | false => simp [cobwebref04_Cross.j0]
  | true =>
    cases h2 : rightB ax ay with
    | false => simp [cobwebref04_Cross.j0]
    | true =>
      cases h3 : rightB bx by_ with
      | false => simp [cobwebref04_Cross.j0]
      | true =>
        obtain ⟨d1, b1, b1'⟩ := det_eq h1 h2
        obtain ⟨d2, b2, b2'⟩ := det_eq h2 h3
        obtain ⟨d3, b3, b3'⟩ := det_eq h3 h1
        simp only [if_true, and_self, cobwebref04_Cross.j0, Bool.not_true, Bool.false_eq_true, if_false, d1, d2, d3, Option.bind_some, Option.some.injEq]
        have e1 : wrap64 ((ox * ay - oy * ax) + (ax * by_ - ay * bx)) = (ox * ay - oy * ax) + (ax * by_ - ay * bx) := by
          generalize ox * ay - oy * ax = p at *
          generalize ax * by_ - ay * bx = q at *
          unfold wrap64; omega
        rw [e1]
        have e2 : wrap64 ((ox * ay - oy * ax) + (ax * by_ - ay * bx) + (bx * oy - by_ * ox)) = (ox * ay - oy * ax) + (ax * by_ - ay * bx) + (bx * oy - by_ * ox) := by
          generalize ox * ay - oy * ax = p at *
          generalize ax * by_ - ay * bx = q at *
          generalize bx * oy - by_ * ox = r at *
          unfold wrap64; omega
        rw [e2]
        grind

def betB (n a b : Int) : Bool := decide ((a ≤ n ∧ n ≤ b) ∨ (b ≤ n ∧ n ≤ a))

theorem bet_f (n a b : Int) : cobwebref04_between.f n a b = some (betB n a b) := by
  unfold cobwebref04_between.f betB
  by_cases h1 : a ≤ n <;> by_cases h2 : n ≤ b <;> by_cases h3 : b ≤ n <;> by_cases h4 : n ≤ a <;> simp [h1, h2, h3, h4]

/-- On, as the document has it. -/
theorem refOn_f (k : Nat) (px py ax ay bx by_ : Int) : cobwebref04_On.f (k + 1) px py ax ay bx by_ = some (onB px py ax ay bx by_) := by
  simp only [cobwebref04_On.f, refRight_f, refCross_f, bet_f, Option.bind_some, onB]
  cases h1 : rightB px py with
  | false => simp
  | true =>
    cases h2 : rightB ax ay with
    | false => simp
    | true =>
      cases h3 : rightB bx by_ with
      | false => simp
      | true =>
        simp only [if_true, Bool.true_and]
        have hc : crossB ax ay px py bx by_ = - crossB ax ay bx by_ px py := by
          unfold crossB
          simp only [h1, h2, h3, and_self, if_true]
          grind
        rw [hc]
        have hs : sgn (crossB ax ay bx by_ px py) = 0 ↔ crossB ax ay bx by_ px py = 0 := by
          unfold sgn
          constructor
          · intro h; split at h
            · omega
            · split at h <;> omega
          · intro h; rw [h]; rfl
        by_cases hz : crossB ax ay bx by_ px py = 0
        · rw [if_pos (by omega)]
          have hs' := hs.2 hz
          simp only [hs', decide_true, Bool.true_and]
          by_cases hb : betB px ax bx = true
          · rw [if_pos hb]
            simp only [Option.some.injEq]
            unfold betB at *
            unfold holdsB mn mx
            rw [Bool.eq_iff_iff]
            simp only [decide_eq_true_iff] at *
            split <;> split <;> split <;> split <;> omega
          · rw [if_neg hb]
            simp only [Option.some.injEq]
            unfold betB at *
            unfold holdsB mn mx
            simp only [decide_eq_true_iff] at *
            symm
            rw [decide_eq_false_iff_not]
            split <;> split <;> split <;> split <;> omega
        · rw [if_neg (by omega)]
          have : ¬ sgn (crossB ax ay bx by_ px py) = 0 := fun h => hz (hs.1 h)
          simp [this]

end Go.Proofs.Ytpfgjagpaddcpaa.Own
