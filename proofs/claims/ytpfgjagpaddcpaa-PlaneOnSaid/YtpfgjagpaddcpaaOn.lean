import Derived.Test.YtpfgjagpaddcpaaA3
import Derived.Test.YtpfgjagpaddcpaaY1
/-! PlaneOn: what its printed function answers. -/
namespace Go.Proofs.Ytpfgjagpaddcpaa.Own
open Go.RowKit Go.Proofs.YtpfgjagpaddcpaaW.PrintWords Go.Proofs.YtpfgjagpaddcpaaW.PrintLast Go.Proofs.YtpfgjagpaddcpaaW.PrintMore
open Go.Proofs.Ytpfgjagpaddcpaa.X
set_option linter.unusedVariables false
set_option linter.unusedSimpArgs false

theorem crossB_swap (ax ay bx by_ px py : Int) : crossB bx by_ ax ay px py = - crossB ax ay bx by_ px py := by
  unfold crossB
  cases rightB ax ay <;> cases rightB bx by_ <;> cases rightB px py <;> simp
  grind

theorem sgn_zero (n : Int) : sgn n = 0 ↔ n = 0 := by
  unfold sgn
  constructor
  · intro h; split at h
    · omega
    · split at h <;> omega
  · intro h; rw [h]; rfl

theorem mn_comm (a b : Int) : mn a b = mn b a := by unfold mn; split <;> split <;> omega
theorem mx_comm (a b : Int) : mx a b = mx b a := by unfold mx; split <;> split <;> omega

theorem onB_swap (px py ax ay bx by_ : Int) : onB px py bx by_ ax ay = onB px py ax ay bx by_ := by
  unfold onB
  have h1 : decide (sgn (crossB bx by_ ax ay px py) = 0) = decide (sgn (crossB ax ay bx by_ px py) = 0) := by
    rw [decide_eq_decide, sgn_zero, sgn_zero, crossB_swap]
    omega
  have h2 : holdsB (mn bx ax) (mn by_ ay) (mx bx ax) (mx by_ ay) px py = holdsB (mn ax bx) (mn ay by_) (mx ax bx) (mx ay by_) px py := by
    rw [mn_comm bx ax, mn_comm by_ ay, mx_comm bx ax, mx_comm by_ ay]
  rw [h1, h2]
  cases rightB px py <;> cases rightB ax ay <;> cases rightB bx by_ <;> rfl

theorem onB_first (ax ay bx by_ : Int) : onB ax ay ax ay bx by_ = (rightB ax ay && rightB bx by_) := by
  unfold onB
  have h1 : crossB ax ay bx by_ ax ay = 0 := by
    unfold crossB
    split
    · grind
    · rfl
  have h2 : holdsB (mn ax bx) (mn ay by_) (mx ax bx) (mx ay by_) ax ay = true := by
    unfold holdsB mn mx
    rw [decide_eq_true_iff]
    split <;> split <;> split <;> split <;> omega
  rw [h1, h2]
  cases rightB ax ay <;> cases rightB bx by_ <;> rfl

theorem onB_last (ax ay bx by_ : Int) : onB bx by_ ax ay bx by_ = (rightB ax ay && rightB bx by_) := by
  rw [← onB_swap, onB_first]
  cases rightB ax ay <;> cases rightB bx by_ <;> rfl

theorem onB_in (px py ax ay bx by_ : Int) (h : onB px py ax ay bx by_ = true) : holdsB (mn ax bx) (mn ay by_) (mx ax bx) (mx ay by_) px py = true ∧ rightB ax ay = true ∧ rightB bx by_ = true := by
  unfold onB at h
  simp only [Bool.and_eq_true] at h
  exact ⟨h.2.2.2.2, h.2.1, h.2.2.1⟩

theorem on_f_true (px py ax ay bx by_ : Int) : cobweblaw04_PlaneOn.f 2 px py ax ay bx by_ = some true := by
  have h1 : cobwebref04_On.f 2 px py ax ay bx by_ = some (onB px py ax ay bx by_) := refOn_f 1 px py ax ay bx by_
  simp only [cobweblaw04_PlaneOn.f, on_f, h1, onB_swap, Option.bind_some, bne_self_eq_false, Bool.false_eq_true, if_false, cobweblaw04_PlaneOn.j0, refRight_f, cobweblaw04_PlaneOn.j1, cobweblaw04_alive.f, if_true, onB_first, onB_last, plane_Around.f, holds_f]
  cases hi : onB px py ax ay bx by_ with
  | true =>
    obtain ⟨h, ha, hb⟩ := onB_in _ _ _ _ _ _ hi
    simp [ha, hb, h]
  | false =>
    cases ha : rightB ax ay <;> cases hb : rightB bx by_ <;> simp

theorem on_walk (px py : Int) (_ : -9223372036854775808 ≤ px ∧ px ≤ 9223372036854775807) (_ : -9223372036854775808 ≤ py ∧ py ≤ 9223372036854775807) (ax ay : Int) (_ : -9223372036854775808 ≤ ax ∧ ax ≤ 9223372036854775807) (_ : -9223372036854775808 ≤ ay ∧ ay ≤ 9223372036854775807) (bx by_ : Int) (_ : -9223372036854775808 ≤ bx ∧ bx ≤ 9223372036854775807) (_ : -9223372036854775808 ≤ by_ ∧ by_ ≤ 9223372036854775807) (w : World) :
    Calls Try.prog 5 #[.agg #[.int .i64 px, .int .i64 py], .agg #[.int .i64 ax, .int .i64 ay], .agg #[.int .i64 bx, .int .i64 by_]] w fun e w' => e = .returned (.bool true) ∧ Below w.heap.size w w' :=
  cobweblaw04_PlaneOn.calls 2 px py ax ay bx by_ true w (on_f_true px py ax ay bx by_)
end Go.Proofs.Ytpfgjagpaddcpaa.Own
