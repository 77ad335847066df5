/- Whatever two jobs come in, of bulk at most 1048576 together, InputSame returns true and leaves its arguments as they read. -/
import Derived.Test.YtpfgjagpaddcpaaSm2
import Derived.Test.YtpfgjagpaddcpaaRows
import Derived.WalkKit
import Derived.ProofKit
import Derived.OpenShut
import Derived.ChangeOld
import Derived.Below
import Derived.SizedLaws
import Derived.JoinedCond
namespace Go.Proofs.Ytpfgjagpaddcpaa.LawInputSame
open Go.ChangeShapes Go.WideShapes Go.ChangeAt Go.RowKit
open Go.Proofs.Ytpfgjagpaddcpaa.Own Go.Proofs.Ytpfgjagpaddcpaa.X
set_option linter.unusedVariables false
set_option maxRecDepth 100000 in
theorem lifted (os : Os) (started : os.Started) (H : Type) (enc : TypeId × Value → H) (F : Stop.Interp) :
    ReturnsInHanded {} Try.checked os 15 .any ((Rows.OpenSpec.upto Rows.inputSameSpec).pre6 enc Try.prog Try.f15 Rows.inputSameUptoRow.domain false) (((Rows.OpenSpec.upto Rows.inputSameSpec).at F).post enc Try.prog Try.f15 false true false false) := by
  refine returnsInHanded_of_cond (C := Try.checked) (s := Rows.OpenSpec.upto Rows.inputSameSpec) (k := Rows.uptoSmall) rfl own started (by kernel_rfl) Try.func15
    (OpenSpec.witness (enc := enc) (C := Try.checked) (s := Rows.OpenSpec.upto Rows.inputSameSpec) (k := Rows.uptoSmall) rfl false ⟨#[], #[.agg #[.slice none 0 0, .slice none 0 0, .int .i64 0, .int .i64 0, .int .i64 0, .int .i64 0], .agg #[.slice none 0 0, .slice none 0 0, .int .i64 0, .int .i64 0, .int .i64 0, .int .i64 0]], []⟩ 8 (by kernel_rfl) (by kernel_rfl) (by kernel_rfl)
      (x := ([.agg [.nil, .nil, .lit (.int .i64 0), .lit (.int .i64 0), .lit (.int .i64 0), .lit (.int .i64 0)], .agg [.nil, .nil, .lit (.int .i64 0), .lit (.int .i64 0), .lit (.int .i64 0), .lit (.int .i64 0)]], [], [])) (by kernel_rfl) rfl (by kernel_rfl)) ?_
  intro W base args ds gs before hval0 hW _ hk _
  have hval : ∀ (j : Nat) t v, Try.f15.params[j]? = some t → args[j]? = some v → Value.okWide Try.prog W .any base t v := hval0
  have hW' := hW
  obtain ⟨p, q, hA0, hV, rfl, hfz, hnd⟩ := hW
  have hA : DataW.TrodAll enc Try.prog W 0 (fun _ => true) true Try.f15.params.toList args.toList ds p := hA0
  rw [Try.params15] at hA hval
  obtain ⟨v0, vs0, d0, ds0, p0, q0, hargs, rfl, rfl, h0, r0⟩ := trodAll_cons hA
  obtain ⟨v1, vs1, d1, ds1, p1, q1, rfl, rfl, rfl, h1, r1⟩ := trodAll_cons r0
  obtain ⟨rfl, rfl, rfl⟩ := trodAll_nil r1
  obtain rfl : args = #[v0, v1] := by cases args; simp_all
  obtain ⟨rfl, rfl⟩ := trodVars_none hV
  have k0 := h0
  have lt0 : ∀ x ∈ p0, x.block < W.heap.size := by obtain ⟨m, hm⟩ := k0; exact DataW.trod_lt m _ _ _ hm
  obtain ⟨A0, c0, l0, B0, d0', m0, p0', q0', r0', s0', rfl, hc0, hr0, he0, hs0, hd0⟩ := open_job (hval 0 37 v0 rfl rfl) h0
  have k1 := h1
  have lt1 : ∀ x ∈ p1, x.block < W.heap.size := by obtain ⟨m, hm⟩ := k1; exact DataW.trod_lt m _ _ _ hm
  obtain ⟨A1, c1, l1, B1, d1', m1, p1', q1', r1', s1', rfl, hc1, hr1, he1, hs1, hd1⟩ := open_job (hval 1 37 v1 rfl rfl) h1
  have hb0 : l0.length + sumL l0 + (m0.length + sumL m0) + (l1.length + sumL l1 + (m1.length + sumL m1)) ≤ 1048576 := by
    have h1 := bulk_job hd0
    have h1' := bulk_job hd1
    have h2 := bulk_bound hk
    simp only [List.cons_append, Rows.uptoBulkAll] at h2
    omega
  clear hA0 hval0
  refine (inputSame_walk W A0 c0 l0 hc0 hr0 B0 d0' m0 he0 hs0 p0' q0' r0' s0' A1 c1 l1 hc1 hr1 B1 d1' m1 he1 hs1 p1' q1' r1' s1' hb0).mono fun e W' ⟨he, bel⟩ => ?_
  subst he
  exact ⟨_, rfl, _, _, _, [], _, [], hW', trodAll_mk1 (shut_bool Try.underlying4 _), (trodAll_cons_mk (Below.trod laidOut (by kernel_rfl) (of_decide_eq_true (by kernel_rfl)) k0 bel lt0) (trodAll_cons_mk (Below.trod laidOut (by kernel_rfl) (of_decide_eq_true (by kernel_rfl)) k1 bel lt1) trodAll_mk0)), rfl, bel.frame _, fun h => by cases h⟩
theorem over : Rows.inputSameUptoRow.holds Try.pinned (Rows.OpenSpec.upto Rows.inputSameSpec) :=
  OpenClaim.holds_of_cond 15 Try.f15 rfl rfl rfl rfl rfl rfl rfl ⟨rfl, rfl, rfl, rfl, rfl⟩ rfl rfl rfl rfl rfl (by kernel_rfl) Try.func15 (by kernel_rfl)
    (of_decide_eq_true (by kernel_rfl)) (by unfold Func.isWrapper; first | (rw [if_pos (by decide +kernel)]; kernel_rfl) | (rw [if_neg (by decide +kernel)]; exact ⟨rfl, rfl⟩))
    (fun os started H enc _ F => lifted os started H enc F)
theorem proved : Rows.InputSameUptoSaid := over
end Go.Proofs.Ytpfgjagpaddcpaa.LawInputSame
namespace Go.Proofs.Ytpfgjagpaddcpaa
theorem inputSame_holds : Rows.InputSameUptoSaid := LawInputSame.proved
#print axioms inputSame_holds
end Go.Proofs.Ytpfgjagpaddcpaa
