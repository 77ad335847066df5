import Derived.Test.YtpfgjagpaddcpaaBa2
import Derived.StillTail
import Derived.StillTactics
import Derived.OrdersIn
import Derived.TacticsIn
import Derived.RangeFuncNested
import Derived.RangeFuncBound
import Derived.RangeFuncCalls
import Derived.RangeFuncLeaves
import Derived.Deep.Heap
import Derived.RangeFuncBox
import Derived.Shelf.Abstract
import Derived.Shelf.RegionOpen
import Derived.WalkKit
import Derived.OwnWalkIn
import Derived.TacticsInMore
import Derived.LoopNIn
import Derived.LoopIn
import Derived.Sort.CutIn
/-! Texts that this law leans on, put together by a program of this session: F0 F1 Wd0 Wd3. -/
/-! A region whose first n operations only read and whose last ones go in one order, in a fence: as 'wp_region_still_tail' has it without one. Marks of many loops at a function's end. -/
namespace Go.Proofs.Ytpfgjagpaddcpaa.Own
open Go Go.RowKit
set_option linter.unusedVariables false
set_option linter.unusedSimpArgs false
variable {P : Program} {md : Region.Mode} {ops : Array Oper} {F : Fence} {n : Nat} {w : World}

/-- An operation that is still may be taken in any round of the wide fence. -/
theorem wpIn_of_still {o : Oper} {a : Act} {K : Act → Prop} {K' : Act → World → Prop} {Q' : Exit → Act → World → Prop} (hF : ∀ f, F.fn f) (hd : F.depth = none) (hC : ∀ f args R, Calls P f args w R → CallsIn F (n - 1) P f args w R)
    (hs : o.semAt F.round a.eval = execOp a.eval o) (h : ∀ a, K a → K' a w) (hh : o.still P a w K) : o.wpIn F n P a w K' Q' := by
  unfold Oper.still at hh
  refine ⟨fun f _ => hF f, ?_⟩
  rw [hs]
  generalize (execOp a.eval o).run P w = r at *
  cases r with
  | ok x w' =>
    cases x <;> simp only [Oper.stillUpon] at hh
    case enter f args =>
      obtain ⟨rfl, v, hc, hn⟩ := hh
      rw [Oper.uponIn_enter]
      refine ⟨fun h1 => (by rw [hd] at h1; cases h1), (hC _ _ _ hc).mono ?_⟩
      rintro e w'' ⟨rfl, rfl⟩
      exact h _ hn
    all_goals
      obtain ⟨rfl, hn⟩ := hh
      exact h _ hn
  | halt x w' => simp only [Oper.stillUpon] at hh

theorem wpOpIn_of_stOp {i : Nat} {a : Act} {K : Act → Prop} {K' : Act → World → Prop} {Q' : Exit → Act → World → Prop} (hF : ∀ f, F.fn f) (hd : F.depth = none) (hC : ∀ f args R, Calls P f args w R → CallsIn F (n - 1) P f args w R)
    (hs : ∀ (j : Nat) (o : Oper), ops[j]? = some o → ∀ a : Act, o.semAt F.round a.eval = execOp a.eval o) (h : ∀ a, K a → K' a w) (hh : stOp P ops w i K a) : wpOpIn F n P ops Q' i K' a w := by
  unfold stOp at hh
  unfold wpOpIn
  split
  · rename_i ho; simp only [ho] at hh; exact h _ hh
  · rename_i o ho
    simp only [ho] at hh
    split
    · rename_i hw; simp only [hw, if_true] at hh; exact wpIn_of_still hF hd hC (hs _ _ ho a) h hh
    · rename_i hw; simp only [hw] at hh; exact ⟨fun f _ => hF f, h _ hh⟩

theorem wpAnyIn_of_head {m g : Nat} {L : Array Bool → Act → Prop} {Q' : Exit → Act → World → Prop} (hF : ∀ f, F.fn f) (hd : F.depth = none) (hC : ∀ f args R, Calls P f args w R → CallsIn F (n - 1) P f args w R)
    (hs : ∀ (j : Nat) (o : Oper), ops[j]? = some o → ∀ a : Act, o.semAt F.round a.eval = execOp a.eval o) (hL : ∀ listed a, L listed a → wpAnyIn F n P md ops Q' g listed a w) :
    ∀ (f : Nat) (listed : Array Bool) (a : Act), wpAnyL P md ops w m L f listed a → wpAnyIn F n P md ops Q' (f + g) listed a w
  | 0, listed, a, h => by rw [Nat.zero_add]; exact hL _ _ h
  | f + 1, listed, a, h => by
    rw [show f + 1 + g = (f + g) + 1 by omega]
    exact ⟨fun h0 => absurd h0 h.1, fun i hi => wpOpIn_of_stOp hF hd hC hs (fun a' h' => wpAnyIn_of_head hF hd hC hs hL f _ a' h') (h.2 i hi).2⟩

theorem wpAnyIn_of_seq {Q' : Exit → Act → World → Prop} : ∀ (l : List Oper) (k : Nat) (listed : Array Bool) (a : Act) (w : World), (∀ j, l[j]? = ops[k + j]?) →
    Region.seqB md ops l.length k listed = true → wpListIn F n P ops Q' l a w → wpAnyIn F n P md ops Q' l.length listed a w
  | [], _, _, _, _, _, hB, h => ⟨by simpa [Region.seqB] using hB, h⟩
  | o :: l, k, listed, a, w, hl, hB, h => by
    have h0 : ops[k]? = some o := by simpa using (hl 0).symm
    simp only [List.length_cons, Region.seqB, Bool.and_eq_true, decide_eq_true_eq] at hB
    refine ⟨fun h1 => (by rw [hB.1] at h1; cases h1), fun i hi => ?_⟩
    rw [hB.1] at hi
    have hik : i = k := by simpa using hi
    subst hik
    have hw : wpOpIn F n P ops Q' i (wpListIn F n P ops Q' l) a w := by unfold wpOpIn; simp only [h0]; exact h
    exact wpOpIn_mono (fun a' w' h' => wpAnyIn_of_seq l (i + 1) _ a' w' (fun j => by have := hl (j + 1); simpa [Nat.add_assoc, Nat.add_comm 1 j] using this) hB.2 h') hw

/-- The law. -/
theorem wpIn_region_still_tail {id : Nat} {Q : Exit → Act → World → Prop} {a : Act} {l : List Oper} (m : Nat) (hm : P.follows .mixedOrders = true) (hB : Region.lexTailB .any l.toArray m = true)
    (hF : ∀ f, F.fn f) (hd : F.depth = none) (hC : ∀ f args R, Calls P f args { w with drawn := w.drawn + 1 } R → CallsIn F (n - 1) P f args { w with drawn := w.drawn + 1 } R)
    (hs : ∀ (j : Nat) (o : Oper), l.toArray[j]? = some o → ∀ a : Act, o.semAt F.round a.eval = execOp a.eval o)
    (h : wpStill P l.toArray { w with drawn := w.drawn + 1 } (fun a' => wpListIn F n P l.toArray Q (l.drop m) a' { w with drawn := w.drawn + 1 }) (l.take m) a) : (Code.region id l.toArray true).wpIn F n P Q a w := by
  simp only [Region.lexTailB, Bool.and_eq_true, decide_eq_true_eq] at hB
  obtain ⟨⟨⟨⟨hsel, hn⟩, hs'⟩, hc⟩, hlex⟩ := hB
  have hn' : m < l.length := by simpa using hn
  have htl : (l.take m).length = m := by simp; omega
  have hdl : (l.drop m).length = l.toArray.size - m := by simp
  have inv0 : HeadInv .any l.toArray m (Array.replicate l.toArray.size false) :=
    ⟨by simp, fun j oj _ hl => (by rw [getD_replicate_false] at hl; cases hl), fun t _ ht => getD_in (by simpa using ht) (getD_replicate_false _ _)⟩
  have H := wpAnyL_lex (md := .any) (g := l.toArray.size - m) hsel hs' hc hn (l.take m) 0 _ a (fun j hj => by
    have hj' : j < m := by rw [htl] at hj; exact hj
    simp [hj']) (by simpa using htl) inv0 (by rw [htl]; exact hlex) h
  refine wpIn_region_any hm ?_
  have := wpAnyIn_of_head (Q' := Q) (g := l.toArray.size - m) hF hd hC hs (fun listed a' hL => by
    have := wpAnyIn_of_seq (md := .any) (Q' := Q) (F := F) (n := n) (P := P) (l.drop m) m listed a' { w with drawn := w.drawn + 1 } (fun j => by simp [List.getElem?_drop]) (by rw [hdl]; exact hL.1) hL.2
    rwa [hdl] at this) _ _ _ H
  rw [htl, show m + (l.toArray.size - m) = l.toArray.size by omega] at this
  exact this

/-- The marks of loops that are over: blocks, each another, that hold no call. -/
def Marks (ds : List Deferred) (W : World) : Prop := ∃ Ds : List Nat, Ds.Nodup ∧ ds.map Deferred.target = Ds.map Target.collected ∧ ∀ D ∈ Ds, W.heap[D]? = some (.deferred (some []))

theorem marks_nil (W : World) : Marks [] W := ⟨[], List.nodup_nil, rfl, fun _ h => by cases h⟩

end Go.Proofs.Ytpfgjagpaddcpaa.Own

/-! A ring's edges, gone through by an iterator: sides and its closure. -/
namespace Go.Proofs.Ytpfgjagpaddcpaa.Own
open Go.RowKit Go.Shelf Go.Proofs.YtpfgjagpaddcpaaW.PrintWords Go.Proofs.YtpfgjagpaddcpaaW.PrintLast Go.Proofs.YtpfgjagpaddcpaaW.PrintMore
open Go.Proofs.Ytpfgjagpaddcpaa.X
set_option linter.unusedVariables false
set_option linter.unusedSimpArgs false
attribute [local go_sem] Oper.semAt_some

/-- What a round of a loop over a ring's edges must keep: what lay below n₀, and the ring's own box. -/
def KpR (n₀ Bs : Nat) (W W' : World) : Prop := Below n₀ W W' ∧ W'.heap[Bs]? = W.heap[Bs]?
theorem KpR_t {n₀ Bs : Nat} {A B C : World} (h : KpR n₀ Bs A B) (k : KpR n₀ Bs B C) : KpR n₀ Bs A C := ⟨h.1.trans k.1, k.2.trans h.2⟩
theorem KpR_b {n₀ Bs : Nat} {w : World} (hn : n₀ ≤ w.heap.size) (hB : Bs < w.heap.size) (W : World) (l : Nat) (o o' : Obj) (hl : w.heap.size ≤ l) (h : W.heap[l]? = some o) (h1 : o.isCells = false) (h2 : o.isWalk = false) : KpR n₀ Bs W (W.putObj l o') :=
  ⟨belowK_b hn W l o o' hl h h1 h2, (grownBy_putObj' W l o').block Bs (by have := (Array.getElem?_eq_some_iff.1 h).1; omega) (by intro e; cases e; omega)⟩

/-- An edge as yield takes it. -/
abbrev edgV (e : S23 × S23) : Array Value := #[ptV e.1.f0 e.1.f1, ptV e.2.f0 e.2.f1]

set_option maxRecDepth 100000 in
theorem sides1_in (n : Nat) (hn : 1 ≤ n) (lp Bs n₀ : Nat) (w0 : World) (A : Option Addr) (c : Nat) (l : List S23) (hC : Kd.C k23 w0 A l.length l) (hc : l.length ≤ c) (hm : l.length ≤ 9223372036854775807) (hn₀ : n₀ = w0.heap.size)
    (J Jx : List (S23 × S23) → World → Prop)
    (hJ : ∀ pre W, J pre W → J pre W.drew) (hJa : ∀ pre W o, J pre W → J pre (W.alloc o)) 
    (hY : ∀ pre x W, J pre W → pre.length < l.length → YieldAt Fence.wide (n - 1) Try.prog lp (edgV x) W fun e W' =>
      (e = .returned (.bool true) ∧ J (pre ++ [x]) W' ∧ KpR n₀ Bs W W') ∨ (e = .returned (.bool false) ∧ Jx (pre ++ [x]) W'))
    (W : World) (hW : Below n₀ w0 W) (hBs : Boxed W Bs 47 (.slice A l.length c)) (h0 : J [] W) :
    CallsIn Fence.wide n Try.prog 71 #[.func (.yield lp) #[] #[], .pointer (some ⟨Bs, 0, none⟩)] W fun e W' => (∃ v, e = .returned v) ∧
      ((∃ ys, ys = edgs l ∧ J ys W') ∨ (∃ pre, True ∧ Jx pre W')) := by
  have hmx : Try.prog.follows .mixedOrders = true := by kernel_rfl
  have hu23 := Try.underlying23
  have HC := Aside0.mk hC
  have HW := Aside0.mk hW
  have HBs := Aside0.mk hBs
  have cB := hBs.cell
  clear hC hW hBs
  refine callsIn_of_wp Try.func71 rfl trivial ?_ rfl
  simp only [Try.ntmps71, List.size_toArray, List.length_cons, List.length_nil, Nat.reduceAdd, Nat.reduceSub, Array.replicate_succ, Array.replicate_zero, List.push_toArray, List.append_toArray, List.nil_append, List.cons_append]
  gi_wp2
  gi_loopw [7] (fun i wr => ∃ x : Int, i = .int .i64 x ∧ Aside0 (0 ≤ x ∧ x ≤ l.length) ∧ Aside0 (J ((edgs l).take x.toNat) wr) ∧ Aside0 (Below n₀ w0 wr) ∧ Aside0 (Boxed wr Bs 47 (.slice A l.length c)))
    (fun i _ => l.length - (intOf i).toNat)
  case atStart => exact ⟨0, rfl, ⟨by omega, by omega⟩, ⟨h0⟩, HW, HBs⟩
  case round =>
    obtain ⟨x, rfl, Hk, HJ, HWr, HBr⟩ := hrel
    obtain ⟨hx, hxl⟩ := Hk.out
    clear cB HW HBs h0 Hk
    have cB := HBr.out.cell
    by_cases hlt : x < (l.length : Int)
    · obtain ⟨ad, e1, hx0, hx1⟩ := at_T23 (Kd.C_below HC.out (hn₀ ▸ HWr.out)) x hx hlt
      cases e1
      have d0 : decide (x < (l.length : Int)) = true := decide_eq_true hlt
      have hw1 : IntKind.i64.wrap (x + 1) = x + 1 := IntWalk.i64_in _ (by omega)
      obtain ⟨y, hw2⟩ : ∃ y : Int, (x + 1).tmod (l.length : Int) = y := ⟨_, rfl⟩
      have hye : y = (x + 1) % (l.length : Int) := by rw [← hw2, Int.tmod_eq_emod_of_nonneg (by omega)]
      have hy0 : 0 ≤ y := by rw [hye]; exact Int.emod_nonneg _ (by omega)
      have hy1 : y < (l.length : Int) := by rw [hye]; exact Int.emod_lt_of_pos _ (by omega)
      have HYE := Aside0.mk hye
      clear hye
      have hw3 : IntKind.i64.wrap y = y := IntWalk.i64_in _ (by omega)
      obtain ⟨ad', e1, hz0, hz1⟩ := at_T23 (Kd.C_below HC.out (hn₀ ▸ HWr.out)) y hy0 hy1
      cases e1
      have q0 : 0 < (l.length : Int) := by omega
      have q1 : ¬ (l.length : Int) = 0 := by omega
      have q3 : ¬ l = [] := by rintro rfl; simp at q0
      gi_wp2
      obtain ⟨W2, hW2⟩ : ∃ W2, wr.alloc (.cells #[.int .i64 (rd_T23 l x).f0, .int .i64 (rd_T23 l x).f1] 23) = W2 := ⟨_, rfl⟩
      have kb := blk_new wr (.cells #[.int .i64 (rd_T23 l x).f0, .int .i64 (rd_T23 l x).f1] 23)
      have hb2 : Below wr.heap.size wr W2 := by rw [← hW2]; exact (Below.refl _ wr).alloc (Nat.le_refl _) _
      rw [hW2] at kb ⊢
      have v0 := cell0 0 kb rfl; have v1 := cell0 1 kb rfl
      replace hz0 := cell_on hb2 hz0; replace hz1 := cell_on hb2 hz1
      have cB2 := cell_on hb2 cB
      have HJ2 := Aside0.mk (show J ((edgs l).take x.toNat) W2 by rw [← hW2]; exact hJa _ _ _ HJ.out)
      have HWr2 := Aside0.mk (show Below n₀ w0 W2 from HWr.out.trans (hb2.mono (hn₀ ▸ HWr.out.size)))
      have HBr2 := Aside0.mk (show Boxed W2 Bs 47 (.slice (some ad) l.length c) from (hb2.block _ HBr.out.lt).trans HBr.out)
      clear kb hb2 hW2 cB hx0 hx1 HJ HWr HBr
      refine wpIn_region_still_tail 10 hmx (by kernel_rfl) (fun _ => trivial) rfl (fun _ _ _ h => callsIn_wide.2 h) (fun _ _ _ _ => rfl) ?_
      simp only [List.take_succ_cons, List.take_zero, List.drop_succ_cons, List.drop_zero]
      repeat still_step
      try refine wpStill_nil ?_
      change wpListIn _ _ _ _ _ _ _ W2.drew
      have hlt2 : x.toNat < l.length := by omega
      have hpl : ((edgs l).take x.toNat).length < l.length := by rw [List.length_take, edgs_length]; omega
      have HE := Aside0.mk (show (edgs l).take x.toNat ++ [(rd_T23 l x, rd_T23 l y)] = (edgs l).take (x + 1).toNat by
        rw [show (x + 1).toNat = x.toNat + 1 by omega, List.take_add_one, edgs_get l x.toNat hlt2]
        have : y.toNat = (x.toNat + 1) % l.length := by
          have h := HYE.out
          have h2 : ((y.toNat : Nat) : Int) = (((x.toNat + 1) % l.length : Nat) : Int) := by
            rw [Int.natCast_emod]
            push_cast
            rw [Int.toNat_of_nonneg hy0, Int.toNat_of_nonneg hx, h]
          exact_mod_cast h2
        simp only [rd_T23, this, Option.toList_some])
      obtain ⟨fn, tmps, assign, body, hy, hR⟩ := hY _ (rd_T23 l x, rd_T23 l y) W2.drew (hJ _ _ HJ2.out) hpl
      clear hpl
      dsimp only [edgV, ptV] at hy
      gi_wp2
      refine hR.mono ?_
      clear hR hy
      rintro e W3 (⟨rfl, hJ3, hk3⟩ | ⟨rfl, hJx3⟩)
      · rw [HE.out] at hJ3
        have HJ3 := Aside0.mk hJ3
        have HW3 := Aside0.mk ((below_drew1 HWr2.out).trans hk3.1)
        have HB3 := Aside0.mk (show Boxed W3 Bs 47 (.slice (some ad) l.length c) from hk3.2.trans (show W2.drew.heap[Bs]? = _ from HBr2.out))
        clear hJ3 hk3 v0 v1 hz0 hz1 cB2 HJ2 HWr2 HBr2
        gi_wp2
        go_roundw
        case rel => exact ⟨x + 1, by go_num, ⟨by omega, by omega⟩, HJ3, HW3, HB3⟩
        case measure => simp [intOf]; omega
      · have HJx := Aside0.mk hJx3
        clear hJx3
        gi_wp2
        refine bodyPost_ret (results_none rfl _ _ _) rfl ?_
        exact ⟨⟨_, rfl⟩, .inr ⟨_, trivial, HJx.out⟩⟩
    · obtain rfl : x = l.length := by omega
      gi_wp2
      go_end0
      exact ⟨⟨_, rfl⟩, .inl (by have := HJ.out; rwa [show (l.length : Int).toNat = (edgs l).length by simp [edgs_length], List.take_length] at this)⟩

set_option maxRecDepth 100000 in
theorem sides_in (n : Nat) (A : Option Addr) (len c : Nat) (w : World) :
    CallsIn Fence.wide n Try.prog 56 #[.slice A len c] w fun e w' => e = .returned (.func (.func 71) #[] #[.pointer (some ⟨w.heap.size, 0, none⟩)]) ∧ w' = w.alloc (.cells #[.slice A len c] 47) := by
  refine callsIn_of_wp Try.func56 rfl trivial ?_ rfl
  simp only [Try.ntmps56, List.size_toArray, List.length_cons, List.length_nil, Nat.reduceAdd, Nat.reduceSub, Array.replicate_succ, Array.replicate_zero, List.push_toArray, List.append_toArray, List.nil_append, List.cons_append]
  gi_wp2
  go_ret
  exact ⟨rfl, rfl⟩

/-- **sides: the iterator's contract**: a ring's edges, in their order; each round keeps what lay ahead of the ring's own box, and that box. -/
theorem sides_stops (n : Nat) (hn : 1 ≤ n) (Bs n₀ : Nat) (w0 w : World) (A : Option Addr) (c : Nat) (l : List S23) (hC : Kd.C k23 w0 A l.length l) (hc : l.length ≤ c) (hm : l.length ≤ 9223372036854775807) (hn₀ : n₀ = w0.heap.size) (hw : Below n₀ w0 w)
    (hBs : Boxed w Bs 47 (.slice A l.length c)) :
    SeqStopsK Fence.wide n Try.prog 71 #[.pointer (some ⟨Bs, 0, none⟩)] edgV (KpR n₀ Bs) (fun ys => ys = edgs l) (fun _ => True) l.length w := fun lp J Jx W hW hJ hJx hY h0 => by
  refine sides1_in n hn lp Bs n₀ w0 A c l hC hc hm hn₀ J Jx ?_ ?_ hY W (hw.trans (hW.mono (hn₀ ▸ hw.size))) ((hW.block _ hBs.lt).trans hBs) h0
  · exact fun pre W hp => hJ pre W W.drew none hp ⟨rfl, rfl, rfl, Nat.le_refl _, fun _ _ _ => rfl⟩ (fun r e => by cases e)
  · exact fun pre W o hp => hJ pre W _ none hp (World.grownBy_alloc W o none) (fun r e => by cases e)
end Go.Proofs.Ytpfgjagpaddcpaa.Own

/-! Marks of many loops; facts of cells that are a loop's own. -/
namespace Go.Proofs.Ytpfgjagpaddcpaa.Own
open Go.RowKit Go.Shelf Go.Proofs.YtpfgjagpaddcpaaW.PrintWords Go.Proofs.YtpfgjagpaddcpaaW.PrintLast Go.Proofs.YtpfgjagpaddcpaaW.PrintMore
open Go.Proofs.Ytpfgjagpaddcpaa.X
set_option linter.unusedVariables false
set_option linter.unusedSimpArgs false

theorem keeps_below {W W' : World} (h : Below W.heap.size W W') : KeepsOthers W W' :=
  ⟨h.size, fun k o hk _ => (h.block k (Array.getElem?_eq_some_iff.1 hk).1).trans hk⟩

/-- A fact of a block of cells is one's own. -/
theorem cells_own {β : Type} (B : Nat) (f : β → Array Value) (t : TypeId) : Own (fun s W => W.heap[B]? = some (.cells (f s) t (0, 0))) := fun s X Y row hs hg hrow =>
  (hg.block B (Array.getElem?_eq_some_iff.1 hs).1 (fun e' => by obtain ⟨o, ho, hc⟩ := hrow B e'.symm; rw [hs] at ho; cases ho; cases hc)).trans hs

/-- The marks of the loops that are over. -/
def Mk (w : World) (ds : List Deferred) (W : World) : Prop := ∃ Ds : List Nat, Ds.Nodup ∧ ds.map Deferred.target = Ds.map Target.collected ∧ ∀ D ∈ Ds, w.heap.size ≤ D ∧ W.heap[D]? = some (.deferred (some []))

theorem Mk_cons {w W : World} {ds : List Deferred} {D : Nat} {n : Nat} (h : Mk w ds W) (hn : ∀ Ds : List Nat, (∀ D' ∈ Ds, D' < n) → True) (hD : w.heap.size ≤ D) (hK : W.heap[D]? = some (.deferred (some []))) (hlt : ∀ Ds : List Nat, ds.map Deferred.target = Ds.map Target.collected → D ∉ Ds) :
    Mk w ({ target := .collected D, args := #[] } :: ds) W := by
  obtain ⟨Ds, h1, h2, h3⟩ := h
  exact ⟨D :: Ds, List.nodup_cons.2 ⟨hlt Ds h2, h1⟩, by simp [h2], fun D' hD' => by
    rcases List.mem_cons.1 hD' with rfl | h
    · exact ⟨hD, hK⟩
    · exact h3 _ h⟩

theorem leaves_marks {F : Fence} {n : Nat} {P : Program} {fn : Func} {tmps : Array Value} {R : Ending → World → Prop} {u : FrameMode} (hu : u ≠ .run) (S : World → Prop) (B : Nat)
    (hS : ∀ W D, S W → B ≤ D → W.heap[D]? = some (.deferred (some [])) → S (W.putObj D (.deferred none))) (hend : ∀ W, S W → LeavesIn F n P fn tmps R [] u W) :
    ∀ (Ds : List Nat) (ds : List Deferred) (W : World), ds.map Deferred.target = Ds.map Target.collected → Ds.Nodup → (∀ D ∈ Ds, B ≤ D ∧ W.heap[D]? = some (.deferred (some []))) → S W → LeavesInM F n P fn tmps R ds u W
  | [], [], W, _, _, _, hs => hend W hs
  | [], _ :: _, _, h, _, _, _ => by cases h
  | _ :: _, [], _, h, _, _, _ => by cases h
  | D :: Ds, d :: ds, W, h, hn, hD, hs => by
    simp only [List.map_cons, List.cons.injEq] at h
    obtain ⟨hB, hK⟩ := hD D (List.mem_cons_self ..)
    refine ⟨hu, .inl ⟨D, _, h.1, run_takeDeferred hK, ?_⟩⟩
    refine leaves_marks hu S B hS hend Ds ds _ h.2 (List.nodup_cons.1 hn).2 (fun D' hD' => ⟨(hD D' (List.mem_cons_of_mem _ hD')).1, ?_⟩) (hS _ _ hs hB hK)
    have hne : D' ≠ D := fun e => (List.nodup_cons.1 hn).1 (e ▸ hD')
    have h2 := (hD D' (List.mem_cons_of_mem _ hD')).2
    exact ((grownBy_putObj' W D (.deferred none)).block D' (Array.getElem?_eq_some_iff.1 h2).1 (fun e => hne (by cases e; rfl))).trans h2

end Go.Proofs.Ytpfgjagpaddcpaa.Own

/-! Wind's two points, doubled: the region that draws its order. -/
namespace Go.Proofs.Ytpfgjagpaddcpaa.Own
open Go.RowKit Go.Shelf Go.Proofs.YtpfgjagpaddcpaaW.PrintWords Go.Proofs.YtpfgjagpaddcpaaW.PrintLast Go.Proofs.YtpfgjagpaddcpaaW.PrintMore
open Go.Proofs.Ytpfgjagpaddcpaa.X
set_option linter.unusedVariables false
set_option linter.unusedSimpArgs false
attribute [local go_sem] Oper.semAt_some

theorem blk_two {W : World} {g : Nat} {t : TypeId} {u v a b : Value} (h : W.heap[g]? = some (.cells #[u, v] t (0, 0))) : ((W.setCell ⟨g, 0, none⟩ a).setCell ⟨g, 1, none⟩ b).heap[g]? = some (.cells #[a, b] t (0, 0)) :=
  blk_set (blk_set h 0 a) 1 b

theorem blk_two4 {W : World} {g g' : Nat} {t : TypeId} {u v a b a' b' : Value} (h : W.heap[g]? = some (.cells #[u, v] t (0, 0))) (hne : g ≠ g') :
    ((((W.setCell ⟨g', 0, none⟩ a').setCell ⟨g', 1, none⟩ b').setCell ⟨g, 0, none⟩ a).setCell ⟨g, 1, none⟩ b).heap[g]? = some (.cells #[a, b] t (0, 0)) :=
  blk_two ((Go.Deep.blk_setCell_other _ _ _ _ hne).trans ((Go.Deep.blk_setCell_other _ _ _ _ hne).trans h))

theorem blk_new' (W : World) (o : Obj) (k : Nat) (h : k = W.heap.size) : (W.alloc o).heap[k]? = some o := by rw [h]; exact blk_new W o

theorem twice_any23 (p : S23) (w : World) : Calls Try.prog 57 #[.agg #[.int .i64 p.f0, .int .i64 p.f1]] w fun e w' => e = .returned (.agg #[.int .i64 (tw p).f0, .int .i64 (tw p).f1]) ∧ Below w.heap.size w w' := twice_any p.f0 p.f1 w

theorem blk_new2 (W : World) (o p : Obj) : ((W.alloc o).alloc p).heap[W.heap.size + 1]? = some p := by
  have h := blk_new (W.alloc o) p
  rwa [World.size_alloc] at h

set_option maxRecDepth 100000 in
set_option maxHeartbeats 8000000 in
theorem wind_two (lp m b12 b13 : Nat) (hm : 1 ≤ m) (e : S23 × S23) (W : World) (H12 : Aside0 (W.heap[b12]? = some (.cells #[.int .i64 e.1.f0, .int .i64 e.1.f1] 23 (0, 0)))) (H13 : Aside0 (W.heap[b13]? = some (.cells #[.int .i64 e.2.f0, .int .i64 e.2.f1] 23 (0, 0))))
    (t0 t1 t2 t3 t4 t5 t6 t7 t8 t9 t10 t11 t14 t15 t16 t17 t18 t19 t20 t21 t22 t23 t24 t25 t26 t27 t28 t29 t30 t31 t32 t33 t34 t35 t36 t37 t38 t39 t40 t41 t42 t43 t44 t45 t46 t47 t48 t49 t50 t51 t52 t53 t54 t55 t56 t57 t58 t59 t60 t61 t62 t63 t64 t65 t66 t67 t68 t69 t70 t71 t72 t73 t74 t75 t76 t77 t78 t79 t80 t81 t82 t83 t84 t85 t86 t87 t88 t89 t90 : Value) (K : Act → World → Prop) (Q' : Exit → Act → World → Prop)
    (hK : ∀ (g14 g15 : Nat) (W' : World), Below W.heap.size W W' → W.heap.size ≤ g14 → W.heap.size ≤ g15 → W'.heap[g14]? = some (.cells #[.int .i64 (tw e.1).f0, .int .i64 (tw e.1).f1] 23 (0, 0)) → W'.heap[g15]? = some (.cells #[.int .i64 (tw e.2).f0, .int .i64 (tw e.2).f1] 23 (0, 0)) →
      K { tmps := List.toArray (t0 :: t1 :: t2 :: t3 :: t4 :: t5 :: t6 :: t7 :: t8 :: t9 :: t10 :: t11 :: (.pointer (some ⟨b12, 0, none⟩)) :: (.pointer (some ⟨b13, 0, none⟩)) :: (.pointer (some ⟨g14, 0, none⟩)) :: (.pointer (some ⟨g15, 0, none⟩)) :: t16 :: t17 :: t18 :: t19 :: t20 :: t21 :: t22 :: t23 :: t24 :: t25 :: t26 :: t27 :: t28 :: t29 :: t30 :: (.agg #[.int .i64 e.1.f0, .int .i64 e.1.f1]) :: (.agg #[.int .i64 (tw e.1).f0, .int .i64 (tw e.1).f1]) :: (.agg #[.int .i64 e.2.f0, .int .i64 e.2.f1]) :: (.agg #[.int .i64 (tw e.2).f0, .int .i64 (tw e.2).f1]) :: t35 :: t36 :: t37 :: t38 :: t39 :: t40 :: t41 :: t42 :: t43 :: t44 :: t45 :: t46 :: t47 :: t48 :: t49 :: t50 :: t51 :: t52 :: t53 :: t54 :: t55 :: t56 :: t57 :: t58 :: t59 :: t60 :: t61 :: t62 :: t63 :: t64 :: t65 :: t66 :: t67 :: t68 :: t69 :: t70 :: t71 :: t72 :: t73 :: t74 :: t75 :: t76 :: t77 :: t78 :: t79 :: t80 :: t81 :: t82 :: t83 :: t84 :: t85 :: t86 :: t87 :: t88 :: t89 :: t90 :: []), defers := [] } W') :
    Code.wpIn (Fence.wide.inRound lp) m Try.prog
      (Go.Code.region 9 #[{ dst := some 31, op := Op.load 23 (Go.Operand.tmp 12), type := 23, pos := "input.go:147", after := #[], guard := none }, { dst := some 32, op := Op.call { callee := Callee.value (Go.Operand.func 57), args := #[Go.Operand.tmp 31], argTypes := #[23] }, type := 23, pos := "input.go:147", after := #[{ on := 0, ground := Ground.data }], guard := none }, { dst := some 33, op := Op.load 23 (Go.Operand.tmp 13), type := 23, pos := "input.go:147", after := #[], guard := none }, { dst := some 34, op := Op.call { callee := Callee.value (Go.Operand.func 57), args := #[Go.Operand.tmp 33], argTypes := #[23] }, type := 23, pos := "input.go:147", after := #[{ on := 2, ground := Ground.data }, { on := 1, ground := Ground.chain }], guard := none }, { dst := some 14, op := Op.alloc 23, type := 0, pos := "input.go:147", after := #[], guard := none }, { dst := some 15, op := Op.alloc 23, type := 0, pos := "input.go:147", after := #[], guard := none }, { dst := none, op := Op.store 23 (Go.Operand.tmp 14) (Go.Operand.tmp 32), type := 0, pos := "input.go:147", after := #[{ on := 4, ground := Ground.data }, { on := 1, ground := Ground.data }, { on := 3, ground := Ground.chain }, { on := 0, ground := Ground.phase }, { on := 1, ground := Ground.phase }, { on := 2, ground := Ground.textOnly Departure.lateStores }, { on := 3, ground := Ground.textOnly Departure.lateStoresUnsure }, { on := 4, ground := Ground.phase }, { on := 5, ground := Ground.phase }], guard := none }, { dst := none, op := Op.store 23 (Go.Operand.tmp 15) (Go.Operand.tmp 34), type := 0, pos := "input.go:147", after := #[{ on := 5, ground := Ground.data }, { on := 3, ground := Ground.data }, { on := 6, ground := Ground.chain }, { on := 0, ground := Ground.phase }, { on := 1, ground := Ground.phase }, { on := 2, ground := Ground.phase }, { on := 3, ground := Ground.phase }, { on := 4, ground := Ground.phase }, { on := 5, ground := Ground.phase }, { on := 6, ground := Ground.phase }], guard := none }] true)
      (Exit.then K Q') { tmps := List.toArray (t0 :: t1 :: t2 :: t3 :: t4 :: t5 :: t6 :: t7 :: t8 :: t9 :: t10 :: t11 :: (.pointer (some ⟨b12, 0, none⟩)) :: (.pointer (some ⟨b13, 0, none⟩)) :: t14 :: t15 :: t16 :: t17 :: t18 :: t19 :: t20 :: t21 :: t22 :: t23 :: t24 :: t25 :: t26 :: t27 :: t28 :: t29 :: t30 :: t31 :: t32 :: t33 :: t34 :: t35 :: t36 :: t37 :: t38 :: t39 :: t40 :: t41 :: t42 :: t43 :: t44 :: t45 :: t46 :: t47 :: t48 :: t49 :: t50 :: t51 :: t52 :: t53 :: t54 :: t55 :: t56 :: t57 :: t58 :: t59 :: t60 :: t61 :: t62 :: t63 :: t64 :: t65 :: t66 :: t67 :: t68 :: t69 :: t70 :: t71 :: t72 :: t73 :: t74 :: t75 :: t76 :: t77 :: t78 :: t79 :: t80 :: t81 :: t82 :: t83 :: t84 :: t85 :: t86 :: t87 :: t88 :: t89 :: t90 :: []), defers := [] } W := by
  have hmx : Try.prog.follows .mixedOrders = true := by kernel_rfl
  have hu23 := Try.underlying23
  have HK := Aside0.mk hK
  clear hK
  have q0 := cell0 0 H12.out rfl; have q1 := cell0 1 H12.out rfl; have q2 := cell0 0 H13.out rfl; have q3 := cell0 1 H13.out rfl; have l12 := blk_lt H12.out; have n12 := Nat.ne_of_lt l12; have l13 := blk_lt H13.out; have n13 := Nat.ne_of_lt l13
  clear H12 H13
  gi_region_with_o (refine ⟨trivial, ?_⟩; gi_at_call 57; refine (CallsIn.inRound lp (callsIn_wide.2 (twice_any23 _ _))).mono ?_; rintro e1 w2 ⟨rfl, hb2⟩; have HX : Below W.heap.size W w2 := below_step (by repeat (first | exact Below.refl _ _ | assumption | apply below_drew1 | apply below_alloc)) hb2; have z0 := cell_on HX q0; have z1 := cell_on HX q1; have z2 := cell_on HX q2; have z3 := cell_on HX q3; have z8 := HX.size; have z4 := Nat.lt_of_lt_of_le l12 HX.size; have z5 := Nat.ne_of_lt z4; have z6 := Nat.lt_of_lt_of_le l13 HX.size; have z7 := Nat.ne_of_lt z6; (try (have yc := blk_below ya (below_step (by repeat (first | exact Below.refl _ _ | apply below_alloc)) hb2); have yc0 := cell0 0 yc rfl; have yc1 := cell0 1 yc rfl; have yc2 := blk_frozen yc 0; have yc3 := blk_frozen yc 1; have yc4 := blk_lt yc; have yc5 := Nat.ne_of_lt yc4)); (try (have yd := blk_below yb (below_step (by repeat (first | exact Below.refl _ _ | apply below_alloc)) hb2); have yd0 := cell0 0 yd rfl; have yd1 := cell0 1 yd rfl; have yd2 := blk_frozen yd 0; have yd3 := blk_frozen yd 1; have yd4 := blk_lt yd; have yd5 := Nat.ne_of_lt yd4)); (first | (have ya := blk_below (blk_new _ _) hb2; (try simp only [World.size_alloc, World.size_drew] at ya); have ya0 := cell0 0 ya rfl; have ya1 := cell0 1 ya rfl; have ya2 := blk_frozen ya 0; have ya3 := blk_frozen ya 1; have ya4 := blk_lt ya; have ya5 := Nat.ne_of_lt ya4) | (have ya := blk_below (show (World.drew _).heap[_]? = some (.cells _ _ (0, 0)) from blk_new _ _) hb2; (try simp only [World.size_alloc, World.size_drew] at ya); have ya0 := cell0 0 ya rfl; have ya1 := cell0 1 ya rfl; have ya2 := blk_frozen ya 0; have ya3 := blk_frozen ya 1; have ya4 := blk_lt ya; have ya5 := Nat.ne_of_lt ya4) | skip); (first | (have yb := blk_below ((Below.heap_alloc _ _ _ (by simp)).trans (blk_new _ _)) hb2; (try simp only [World.size_alloc, World.size_drew] at yb); have yb0 := cell0 0 yb rfl; have yb1 := cell0 1 yb rfl; have yb2 := blk_frozen yb 0; have yb3 := blk_frozen yb 1; have yb4 := blk_lt yb; have yb5 := Nat.ne_of_lt yb4) | (have yb := blk_below (show (World.drew _).heap[_]? = some (.cells _ _ (0, 0)) from (Below.heap_alloc _ _ _ (by simp)).trans (blk_new _ _)) hb2; (try simp only [World.size_alloc, World.size_drew] at yb); have yb0 := cell0 0 yb rfl; have yb1 := cell0 1 yb rfl; have yb2 := blk_frozen yb 0; have yb3 := blk_frozen yb 1; have yb4 := blk_lt yb; have yb5 := Nat.ne_of_lt yb4) | skip); clear hb2)
  all_goals
    show K _ _
    refine HK.out _ _ _ ?_ ?_ ?_ ?_ ?_
    · repeat (first | assumption | exact Below.refl _ _ | apply below_alloc | apply below_drew1 | (refine Below.setCell ?_ ?_ _; rotate_left; (first | exact Nat.le_refl _ | exact Nat.le_add_right _ _ | (show _ ≤ _; omega) | (simp; done) | (simp; omega))))
    · first | omega | (simp; omega)
    · first | omega | (simp; omega)
    · repeat (first | with_reducible exact blk_new _ _ | with_reducible exact blk_new2 _ _ _ | with_reducible exact blk_two ya | with_reducible exact blk_two4 ya (by simp; first | done | omega) | with_reducible exact blk_two yb | with_reducible exact blk_two4 yb (by simp; first | done | omega) | with_reducible exact blk_two yc | with_reducible exact blk_two4 yc (by simp; first | done | omega) | with_reducible exact blk_two yd | with_reducible exact blk_two4 yd (by simp; first | done | omega) | (with_reducible refine (Go.Deep.blk_setCell_other _ _ _ _ (by simp; first | done | omega)).trans ?_) | (with_reducible refine (Below.heap_alloc _ _ _ (by simp; first | done | omega)).trans ?_) | (with_reducible refine blk_new' _ _ _ (by simp; first | done | omega)))
    · repeat (first | with_reducible exact blk_new _ _ | with_reducible exact blk_new2 _ _ _ | with_reducible exact blk_two ya | with_reducible exact blk_two4 ya (by simp; first | done | omega) | with_reducible exact blk_two yb | with_reducible exact blk_two4 yb (by simp; first | done | omega) | with_reducible exact blk_two yc | with_reducible exact blk_two4 yc (by simp; first | done | omega) | with_reducible exact blk_two yd | with_reducible exact blk_two4 yd (by simp; first | done | omega) | (with_reducible refine (Go.Deep.blk_setCell_other _ _ _ _ (by simp; first | done | omega)).trans ?_) | (with_reducible refine (Below.heap_alloc _ _ _ (by simp; first | done | omega)).trans ?_) | (with_reducible refine blk_new' _ _ _ (by simp; first | done | omega)))
end Go.Proofs.Ytpfgjagpaddcpaa.Own
