import Derived.Test.YtpfgjagpaddcpaaZ2
import Derived.Test.YtpfgjagpaddcpaaH1
/-! PlaneBoxes: what its printed function answers. -/
namespace Go.Proofs.Ytpfgjagpaddcpaa.Own
open Go.RowKit Go.Proofs.YtpfgjagpaddcpaaW.PrintWords Go.Proofs.YtpfgjagpaddcpaaW.PrintLast Go.Proofs.YtpfgjagpaddcpaaW.PrintMore
open Go.Proofs.Ytpfgjagpaddcpaa.X
set_option linter.unusedVariables false
set_option linter.unusedSimpArgs false

theorem meet_f (a b c d e f g h : Int) : plane_Meet.f a b c d e f g h = some (meetB a b c d e f g h) := by
  unfold plane_Meet.f meetB
  by_cases h1 : mx a e ≤ mn c g <;> simp [h1]

theorem mx_le (a b c : Int) : mx a b ≤ c ↔ a ≤ c ∧ b ≤ c := by unfold mx; split <;> omega
theorem le_mn (a b c : Int) : c ≤ mn a b ↔ c ≤ a ∧ c ≤ b := by unfold mn; split <;> omega
theorem le_mx (a b : Int) : a ≤ mx a b ∧ b ≤ mx a b := by unfold mx; split <;> omega

theorem meet_iff (a b c d e f g h : Int) : meetB a b c d e f g h = (holdsB a b c d (mx a e) (mx b f) && holdsB e f g h (mx a e) (mx b f)) := by
  have p := le_mx a e
  have q := le_mx b f
  unfold meetB holdsB
  rw [Bool.eq_iff_iff, Bool.and_eq_true]
  simp only [decide_eq_true_iff, le_mn]
  omega

theorem meet_swap (a b c d e f g h : Int) : meetB e f g h a b c d = meetB a b c d e f g h := by
  unfold meetB
  rw [Bool.eq_iff_iff]
  simp only [decide_eq_true_iff, le_mn, mx_le]
  omega

theorem meet_of (a b c d e f g h x y : Int) (h1 : holdsB a b c d x y = true) (h2 : holdsB e f g h x y = true) : meetB a b c d e f g h = true := by
  unfold meetB holdsB at *
  simp only [decide_eq_true_iff, le_mn, mx_le] at *
  omega

theorem boxes_f (a b c d e f g h x y : Int) : cobweblaw04_PlaneBoxes.f a b c d e f g h x y = some true := by
  simp only [cobweblaw04_PlaneBoxes.f, meet_f, cobweblaw04_alive.f, holds_f, cobweblaw04_PlaneBoxes_1.f, Option.bind_some, if_true, beq_self_eq_true, meet_swap]
  have hm := meet_iff a b c d e f g h
  have ho := meet_of a b c d e f g h x y
  cases h1 : holdsB a b c d (mx a e) (mx b f) <;> cases h2 : holdsB e f g h (mx a e) (mx b f) <;> cases h3 : holdsB a b c d x y <;> cases h4 : holdsB e f g h x y <;> rw [h1, h2] at hm <;> rw [h3, h4] at ho <;> simp_all

theorem boxes_walk (w : World) (a b c d e f g h x y : Int) (_ : -9223372036854775808 ≤ x ∧ x ≤ 9223372036854775807) (_ : -9223372036854775808 ≤ y ∧ y ≤ 9223372036854775807) :
    Calls Try.prog 8 #[.agg #[.int .i64 a, .int .i64 b, .int .i64 c, .int .i64 d], .agg #[.int .i64 e, .int .i64 f, .int .i64 g, .int .i64 h], .agg #[.int .i64 x, .int .i64 y]] w fun e1 w' => e1 = .returned (.bool true) ∧ Below w.heap.size w w' := by
  cases hq : holdsB a b c d (mx a e) (mx b f) with
  | true => exact cobweblaw04_PlaneBoxes.callsA a b c d e f g h x y true w (boxes_f a b c d e f g h x y) rfl (by unfold cobweblaw04_PlaneBoxes_1.f; rw [hq])
  | false => exact cobweblaw04_PlaneBoxes.callsB a b c d e f g h x y true w (boxes_f a b c d e f g h x y) rfl (by unfold cobweblaw04_PlaneBoxes_1.f; rw [hq])
end Go.Proofs.Ytpfgjagpaddcpaa.Own
