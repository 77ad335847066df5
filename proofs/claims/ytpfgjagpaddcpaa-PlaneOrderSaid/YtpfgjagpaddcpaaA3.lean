import Derived.Test.YtpfgjagpaddcpaaX5
import Derived.Test.YtpfgjagpaddcpaaA2
/-! The references of the plane: they answer as the plane does. -/
namespace Go.Proofs.Ytpfgjagpaddcpaa.Own
open Go.RowKit Go.Proofs.YtpfgjagpaddcpaaW.PrintWords Go.Proofs.YtpfgjagpaddcpaaW.PrintLast Go.Proofs.YtpfgjagpaddcpaaW.PrintMore
open Go.Proofs.Ytpfgjagpaddcpaa.X
set_option linter.unusedVariables false
set_option linter.unusedSimpArgs false

theorem refRight_f (x y : Int) : cobwebref04_Right.f x y = some (rightB x y) := by
  unfold cobwebref04_Right.f rightB
  by_cases h1 : x ≥ -536870912 <;> by_cases h2 : x ≤ 536870912 <;> by_cases h3 : y ≥ -536870912 <;> by_cases h4 : y ≤ 536870912 <;> simp [h1, h2, h3, h4] <;> omega

theorem refRight_any (x y : Int) (w : World) : Calls Try.prog 21 #[ptV x y] w fun e w' => e = .returned (.bool (rightB x y)) ∧ Below w.heap.size w w' :=
  cobwebref04_Right.calls x y _ w (refRight_f x y)

theorem mul_bd' {a b : Int} (ha : -536870912 ≤ a ∧ a ≤ 536870912) (hb : -536870912 ≤ b ∧ b ≤ 536870912) : -288230376151711744 ≤ a * b ∧ a * b ≤ 288230376151711744 := by
  have h1 : a.natAbs * b.natAbs ≤ 536870912 * 536870912 := Nat.mul_le_mul (by omega) (by omega)
  have h2 := Int.natAbs_mul a b
  omega

theorem det_eq {ax ay bx by_ : Int} (ha : rightB ax ay = true) (hb : rightB bx by_ = true) : cobwebref04_det.f ax ay bx by_ = some (ax * by_ - ay * bx) ∧ -576460752303423488 ≤ ax * by_ - ay * bx ∧ ax * by_ - ay * bx ≤ 576460752303423488 := by
  rw [rightB_iff] at ha hb
  have m1 := mul_bd' (a := ax) (b := by_) (by omega) (by omega)
  have m2 := mul_bd' (a := ay) (b := bx) (by omega) (by omega)
  unfold cobwebref04_det.f
  generalize ax * by_ = p at *
  generalize ay * bx = q at *
  have e1 : wrap64 p = p := by unfold wrap64; omega
  have e2 : wrap64 q = q := by unfold wrap64; omega
  rw [e1, e2]
  have e3 : wrap64 (p - q) = p - q := by unfold wrap64; omega
  rw [e3]
  exact ⟨rfl, by omega, by omega⟩

theorem refCross_f (k : Nat) (ox oy ax ay bx by_ : Int) : cobwebref04_Cross.f (k + 1) ox oy ax ay bx by_ = some (crossB ox oy ax ay bx by_) := by
  unfold cobwebref04_Cross.f crossB
  simp only [refRight_f, Option.bind_some]
  cases h1 : rightB ox oy with
  | false => simp [cobwebref04_Cross.j0]
  | true =>
    cases h2 : rightB ax ay with
    | false => simp [cobwebref04_Cross.j0]
    | true =>
      cases h3 : rightB bx by_ with
      | false => simp [cobwebref04_Cross.j0]
      | true =>
        obtain ⟨d1, b1, b1'⟩ := det_eq h1 h2
        obtain ⟨d2, b2, b2'⟩ := det_eq h2 h3
        obtain ⟨d3, b3, b3'⟩ := det_eq h3 h1
        simp only [if_true, and_self, cobwebref04_Cross.j0, Bool.not_true, Bool.false_eq_true, if_false, d1, d2, d3, Option.bind_some, Option.some.injEq]
        have e1 : wrap64 ((ox * ay - oy * ax) + (ax * by_ - ay * bx)) = (ox * ay - oy * ax) + (ax * by_ - ay * bx) := by
          generalize ox * ay - oy * ax = p at *
          generalize ax * by_ - ay * bx = q at *
          unfold wrap64; omega
        rw [e1]
        have e2 : wrap64 ((ox * ay - oy * ax) + (ax * by_ - ay * bx) + (bx * oy - by_ * ox)) = (ox * ay - oy * ax) + (ax * by_ - ay * bx) + (bx * oy - by_ * ox) := by
          generalize ox * ay - oy * ax = p at *
          generalize ax * by_ - ay * bx = q at *
          generalize bx * oy - by_ * ox = r at *
          unfold wrap64; omega
        rw [e2]
        grind

theorem refCross_any (ox oy ax ay bx by_ : Int) (w : World) : Calls Try.prog 22 #[ptV ox oy, ptV ax ay, ptV bx by_] w fun e w' => e = .returned (.int .i64 (crossB ox oy ax ay bx by_)) ∧ Below w.heap.size w w' :=
  cobwebref04_Cross.calls 1 ox oy ax ay bx by_ _ w (refCross_f 0 ox oy ax ay bx by_)

theorem sign_any (n : Int) (w : World) : Calls Try.prog 24 #[.int .i64 n] w fun e w' => e = .returned (.int .i64 (sgn n)) ∧ Below w.heap.size w w' := by
  refine (cobwebref04_Sign.calls n (sgn n) w ?_).mono fun e w' ⟨h1, h2⟩ => ⟨h1, by obtain ⟨m, rfl⟩ := h2.out; exact pw_below_drewN (Below.refl _ _) m⟩
  unfold cobwebref04_Sign.f sgn
  by_cases h : n < 0 <;> by_cases h2 : 0 < n <;> simp [h, h2]

def nearB (x y : Int) : Bool := decide (-268435456 ≤ x ∧ x ≤ 268435456 ∧ -268435456 ≤ y ∧ y ≤ 268435456)

theorem near_any (x y : Int) (w : World) : Calls Try.prog 25 #[ptV x y] w fun e w' => e = .returned (.bool (nearB x y)) ∧ Below w.heap.size w w' := by
  refine cobweblaw04_near.calls x y _ w ?_
  unfold cobweblaw04_near.f nearB
  by_cases h1 : x ≥ -268435456 <;> by_cases h2 : x ≤ 268435456 <;> by_cases h3 : y ≥ -268435456 <;> by_cases h4 : y ≤ 268435456 <;> simp [h1, h2, h3, h4] <;> omega

def betB (n a b : Int) : Bool := decide ((a ≤ n ∧ n ≤ b) ∨ (b ≤ n ∧ n ≤ a))

theorem bet_f (n a b : Int) : cobwebref04_between.f n a b = some (betB n a b) := by
  unfold cobwebref04_between.f betB
  by_cases h1 : a ≤ n <;> by_cases h2 : n ≤ b <;> by_cases h3 : b ≤ n <;> by_cases h4 : n ≤ a <;> simp [h1, h2, h3, h4]

/-- On, as the document has it. -/
theorem refOn_f (k : Nat) (px py ax ay bx by_ : Int) : cobwebref04_On.f (k + 1) px py ax ay bx by_ = some (onB px py ax ay bx by_) := by
  simp only [cobwebref04_On.f, refRight_f, refCross_f, bet_f, Option.bind_some, onB]
  cases h1 : rightB px py with
  | false => simp
  | true =>
    cases h2 : rightB ax ay with
    | false => simp
    | true =>
      cases h3 : rightB bx by_ with
      | false => simp
      | true =>
        simp only [if_true, Bool.true_and]
        have hc : crossB ax ay px py bx by_ = - crossB ax ay bx by_ px py := by
          unfold crossB
          simp only [h1, h2, h3, and_self, if_true]
          grind
        rw [hc]
        have hs : sgn (crossB ax ay bx by_ px py) = 0 ↔ crossB ax ay bx by_ px py = 0 := by
          unfold sgn
          constructor
          · intro h; split at h
            · omega
            · split at h <;> omega
          · intro h; rw [h]; rfl
        by_cases hz : crossB ax ay bx by_ px py = 0
        · rw [if_pos (by omega)]
          have hs' := hs.2 hz
          simp only [hs', decide_true, Bool.true_and]
          by_cases hb : betB px ax bx = true
          · rw [if_pos hb]
            simp only [Option.some.injEq]
            unfold betB at *
            unfold holdsB mn mx
            rw [Bool.eq_iff_iff]
            simp only [decide_eq_true_iff] at *
            split <;> split <;> split <;> split <;> omega
          · rw [if_neg hb]
            simp only [Option.some.injEq]
            unfold betB at *
            unfold holdsB mn mx
            simp only [decide_eq_true_iff] at *
            symm
            rw [decide_eq_false_iff_not]
            split <;> split <;> split <;> split <;> omega
        · rw [if_neg (by omega)]
          have : ¬ sgn (crossB ax ay bx by_ px py) = 0 := fun h => hz (hs.1 h)
          simp [this]

theorem refOn_any (px py ax ay bx by_ : Int) (w : World) : Calls Try.prog 27 #[ptV px py, ptV ax ay, ptV bx by_] w fun e w' => e = .returned (.bool (onB px py ax ay bx by_)) ∧ Below w.heap.size w w' :=
  cobwebref04_On.calls 1 px py ax ay bx by_ _ w (refOn_f 0 px py ax ay bx by_)
end Go.Proofs.Ytpfgjagpaddcpaa.Own
