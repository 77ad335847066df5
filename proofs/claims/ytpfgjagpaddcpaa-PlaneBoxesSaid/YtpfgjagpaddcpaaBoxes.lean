import Derived.Test.YtpfgjagpaddcpaaA2
/-! PlaneBoxes, walked. -/
namespace Go.Proofs.Ytpfgjagpaddcpaa.Own
open Go.RowKit Go.Proofs.YtpfgjagpaddcpaaW.PrintWords Go.Proofs.YtpfgjagpaddcpaaW.PrintLast Go.Proofs.YtpfgjagpaddcpaaW.PrintMore
open Go.Proofs.Ytpfgjagpaddcpaa.X
set_option linter.unusedVariables false
set_option linter.unusedSimpArgs false
attribute [local go_sem] max2_int min2_int max_two min_two max_three min_three max_four min_four

/-- The law's own closure: what a box holds. -/
theorem lit_holds (lx ly hx hy px py : Int) (w : World) : Calls Try.prog 39 #[boxV lx ly hx hy, ptV px py] w fun e w' => e = .returned (.bool (holdsB lx ly hx hy px py)) ∧ Below w.heap.size w w' := by
  have hu23 := Try.underlying23
  have hu33 := Try.underlying33
  by_cases h1 : lx ≤ px
  · have d1 := decide_eq_true h1
    by_cases h2 : px ≤ hx
    · have d2 := decide_eq_true h2
      by_cases h3 : ly ≤ py
      · have d3 := decide_eq_true h3
        have hr := Aside0.mk (show holdsB lx ly hx hy px py = decide (py ≤ hy) by unfold holdsB; rw [decide_eq_decide]; omega)
        clear h1 h2 h3
        go_enter Try.func39, Try.ntmps39
        go_wp2_with fail
        go_ret
        exact ⟨by rw [hr.out]; rfl, below_alloc (below_alloc (Below.refl _ _) _) _⟩
      · have d3 := decide_eq_false h3
        have hr := Aside0.mk (show holdsB lx ly hx hy px py = false by unfold holdsB; rw [decide_eq_false_iff_not]; omega)
        clear h1 h2
        go_enter Try.func39, Try.ntmps39
        go_wp2_with fail
        go_ret
        exact ⟨by rw [hr.out]; rfl, below_alloc (below_alloc (Below.refl _ _) _) _⟩
    · have d2 := decide_eq_false h2
      have hr := Aside0.mk (show holdsB lx ly hx hy px py = false by unfold holdsB; rw [decide_eq_false_iff_not]; omega)
      clear h1
      go_enter Try.func39, Try.ntmps39
      go_wp2_with fail
      go_ret
      exact ⟨by rw [hr.out]; rfl, below_alloc (below_alloc (Below.refl _ _) _) _⟩
  · have d1 := decide_eq_false h1
    have hr := Aside0.mk (show holdsB lx ly hx hy px py = false by unfold holdsB; rw [decide_eq_false_iff_not]; omega)
    go_enter Try.func39, Try.ntmps39
    go_wp2_with fail
    go_ret
    exact ⟨by rw [hr.out]; rfl, below_alloc (below_alloc (Below.refl _ _) _) _⟩
end Go.Proofs.Ytpfgjagpaddcpaa.Own
namespace Go.Proofs.Ytpfgjagpaddcpaa.X
open Go.RowKit Go.Proofs.YtpfgjagpaddcpaaW.PrintWords Go.Proofs.YtpfgjagpaddcpaaW.PrintLast Go.Proofs.YtpfgjagpaddcpaaW.PrintMore
open Go.Proofs.Ytpfgjagpaddcpaa.Own

def cobweblaw04_PlaneBoxes_1.f (lx ly hx hy px py : Int) : Option Bool := some (holdsB lx ly hx hy px py)
theorem cobweblaw04_PlaneBoxes_1.calls (lx ly hx hy px py : Int) (r : Bool) (w : World) (h : cobweblaw04_PlaneBoxes_1.f lx ly hx hy px py = some r) :
    Calls Try.prog 39 #[boxV lx ly hx hy, ptV px py] w fun e w' => e = .returned (.bool r) ∧ Below w.heap.size w w' := by
  obtain rfl := Option.some.inj h
  exact lit_holds lx ly hx hy px py w

section
variable {P : Program} {ops : Array Oper} {Q : Exit → Act → World → Prop}
/-- A call through a slot that holds a plain function. -/
theorem goesT_ {oi : Oper} {N : Option Tmp} {a : Act} {w : World} {K : Act → World → Prop} {t : Tmp} {f : FuncId} {fn : Func} {opr : Array Operand} {ts : Array TypeId} (hf : P.funcs[f]? = some fn) (hname : (fn.name == "runtime.NumGoroutine") = false) (hb : fn.body.isSome = true) (args : Array Value)
    (hw : Region.wanted oi (yielded ops a.tmps) = true) (hN : oi.dst = N) (hop : oi.op = .call { callee := .value (.tmp t), args := opr, argTypes := ts }) (ht : a.eval (.tmp t) = .func (.func f) #[] #[]) (hargs : opr.map a.eval = args)
    (h : Calls P f args w fun e w' => ∃ v, e = .returned v ∧ K (a.put N v) w') : if Region.wanted oi (yielded ops a.tmps) = true then Oper.wp P oi a w K Q else K (a.put N undef) w := by
  refine call_ f args hw hN ?_ h
  have he := enters_ hf hname hb args w
  unfold execOp
  simp [hop, resolve, ht, Deferred.ofValue, invoke, hargs, he]
end
end Go.Proofs.Ytpfgjagpaddcpaa.X
