import Derived.Test.YtpfgjagpaddcpaaY2
/-! PlaneEqual: what its printed function answers. -/
namespace Go.Proofs.Ytpfgjagpaddcpaa.Own
open Go.RowKit Go.Proofs.YtpfgjagpaddcpaaW.PrintWords Go.Proofs.YtpfgjagpaddcpaaW.PrintLast Go.Proofs.YtpfgjagpaddcpaaW.PrintMore
open Go.Proofs.Ytpfgjagpaddcpaa.X
set_option linter.unusedVariables false
set_option linter.unusedSimpArgs false

theorem equal_f' (l m : List S23) (hm : l.length ≤ 9223372036854775807) (k : Nat) (hk : l.length < k) : plane_Equal.f k l m = some (eqPts l m) := by
  unfold plane_Equal.f api_Point_61.f eqPts
  by_cases hl : l.length = m.length
  · obtain ⟨b, hb, hb2⟩ := equal_l0 l m hl hm l.length k 0 (by omega) (by omega)
    rw [if_pos (by omega)]
    have hb' : api_Point_61.l0 k l m l.length 0 = some b := hb
    rw [hb']
    simp only [Option.bind_some, Option.some.injEq]
    rw [Bool.eq_iff_iff, hb2, decide_eq_true_iff]
    exact ⟨fun h => ⟨hl, fun j hj => h j (Nat.zero_le _) hj⟩, fun h j _ hj => h.2 j hj⟩
  · rw [if_neg (by omega)]
    simp [hl]

/-- The law's own loop: i points have been looked at, and were the same. -/
theorem equal_loop (l m : List S23) (hm : l.length ≤ 300) (d : Nat) : ∀ (k i : Nat) (b : Bool), i + d = l.length → l.length + d + 1 < k →
    (b = true ↔ l.length = m.length ∧ ∀ j, j < i → samePt l m j = true) → cobweblaw04_PlaneEqual.l0 k l m b i = some true := by
  induction d with
  | zero =>
    intro k i b hi hk hb
    obtain ⟨k, rfl⟩ : ∃ q, k = q + 1 := ⟨k - 1, by omega⟩
    have he : b = eqPts l m := by
      unfold eqPts
      rw [Bool.eq_iff_iff, hb, decide_eq_true_iff, show i = l.length from by omega]
    simp only [cobweblaw04_PlaneEqual.l0, cobweblaw04_alive.f, Option.bind_some, if_true, equal_f' l m (by omega) k (by omega)]
    rw [if_neg (show ¬ ((i : Int) < (l.length : Int)) by omega), ← he]
    simp
  | succ d ih =>
    intro k i b hi hk hb
    obtain ⟨k, rfl⟩ : ∃ q, k = q + 1 := ⟨k - 1, by omega⟩
    have hw : wrap64 ((i : Int) + 1) = ((i + 1 : Nat) : Int) := by unfold wrap64; omega
    cases b with
    | false =>
      have he : eqPts l m = false := by
        unfold eqPts
        rw [decide_eq_false_iff_not]
        intro h
        exact absurd (hb.2 ⟨h.1, fun j hj => h.2 j (by omega)⟩) (by simp)
      simp only [cobweblaw04_PlaneEqual.l0, cobweblaw04_alive.f, Option.bind_some, if_true, equal_f' l m (by omega) k (by omega), he]
      simp
    | true =>
      obtain ⟨h1, h2⟩ := hb.1 rfl
      simp only [cobweblaw04_PlaneEqual.l0, if_true]
      rw [if_pos (by omega), if_pos (by omega), if_pos (by omega), hw]
      refine ih k (i + 1) _ (by omega) (by omega) ?_
      have e : ((rd_T23 l i).f0 == (rd_T23 m i).f0 && ((rd_T23 l i).f1 == (rd_T23 m i).f1)) = samePt l m i := by
        unfold samePt rd_T23
        simp only [Int.toNat_natCast]
      rw [e]
      constructor
      · intro h
        refine ⟨h1, fun j hj => ?_⟩
        by_cases hji : j = i
        · rw [hji]; exact h
        · exact h2 j (by omega)
      · intro h
        exact h.2 i (by omega)

theorem equal_f_true (l m : List S23) : ∃ k, cobweblaw04_PlaneEqual.f k l m = some true := by
  unfold cobweblaw04_PlaneEqual.f
  by_cases h1 : (l.length : Int) > 300
  · exact ⟨1, by rw [if_pos h1]; rfl⟩
  · by_cases h2 : (m.length : Int) > 300
    · refine ⟨1, ?_⟩
      rw [if_neg h1, decide_eq_true h2]
      rfl
    · refine ⟨l.length + l.length + 4, ?_⟩
      rw [if_neg h1, decide_eq_false h2]
      have h := equal_loop l m (by omega) l.length (l.length + l.length + 3) 0 ((l.length : Int) == (m.length : Int)) (by omega) (by omega) (by
        rw [beq_iff_eq]
        constructor
        · intro h; exact ⟨by omega, fun j hj => by omega⟩
        · intro h; have := h.1; omega)
      simp only [cobweblaw04_PlaneEqual.j0, Bool.false_eq_true, if_false]
      exact h

theorem equal_walk (w : World) (A : Option Addr) (c : Nat) (l : List S23) (hc : l.length ≤ c) (hr : Kd.C k23 w A l.length l) (B : Option Addr) (d : Nat) (m : List S23) (hd : m.length ≤ d) (hs : Kd.C k23 w B m.length m) :
    Calls Try.prog 11 #[.slice A l.length c, .slice B m.length d] w fun e w' => e = .returned (.bool true) ∧ Below w.heap.size w w' := by
  obtain ⟨k, hk⟩ := equal_f_true l m
  exact cobweblaw04_PlaneEqual.calls k A c l B d m true w hr hc hs hd hk
end Go.Proofs.Ytpfgjagpaddcpaa.Own
