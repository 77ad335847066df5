import Derived.Test.YtpfgjagpaddcpaaA2
/-! What was walked by hand, in the printed texts' form: alive and Area. -/
namespace Go.Proofs.Ytpfgjagpaddcpaa.X
open Go.RowKit Go.Proofs.YtpfgjagpaddcpaaW.PrintWords Go.Proofs.YtpfgjagpaddcpaaW.PrintLast Go.Proofs.YtpfgjagpaddcpaaW.PrintMore
open Go.Proofs.Ytpfgjagpaddcpaa.Own

def cobweblaw04_alive.f : Option Bool := some true
theorem cobweblaw04_alive.calls (r : Bool) (w : World) (h : cobweblaw04_alive.f = some r) : Calls Try.prog 19 #[] w fun e w' => e = .returned (.bool r) ∧ Below w.heap.size w w' := by
  obtain rfl := Option.some.inj h
  exact alive_any w

def plane_Area.f (l0 : List S23) : Option Int := some (areaB l0)
theorem plane_Area.calls (A0 : Option Addr) (c0 : Nat) (l0 : List S23) (r : Int) (w : World) (hr0 : Kd.C k23 w A0 l0.length l0) (hc0 : l0.length ≤ c0) (h : plane_Area.f l0 = some r) :
    Calls Try.prog 42 #[.slice A0 l0.length c0] w fun e w' => e = .returned (.int .i64 r) ∧ Below w.heap.size w w' := by
  obtain rfl := Option.some.inj h
  exact area_any A0 c0 l0 w hr0 hc0 hr0.2.1
end Go.Proofs.Ytpfgjagpaddcpaa.X
