import Derived.Test.YtpfgjagpaddcpaaE1
import Derived.Test.YtpfgjagpaddcpaaA3
import Derived.Test.YtpfgjagpaddcpaaX7
/-! The area: turned, begun elsewhere, and as the document has it. No program here. -/
namespace Go.Proofs.Ytpfgjagpaddcpaa.Own
open Go.RowKit Go.Proofs.YtpfgjagpaddcpaaW.PrintWords Go.Proofs.YtpfgjagpaddcpaaW.PrintLast Go.Proofs.YtpfgjagpaddcpaaW.PrintMore
open Go.Proofs.Ytpfgjagpaddcpaa.X
set_option linter.unusedVariables false
set_option linter.unusedSimpArgs false

def crE (p q : S23) : Int := crossB 0 0 p.f0 p.f1 q.f0 q.f1

theorem crE_neg (p q : S23) : crE q p = - crE p q := by
  unfold crE crossB
  cases rightB p.f0 p.f1 <;> cases rightB q.f0 q.f1 <;> cases rightB 0 0 <;> simp
  grind

theorem wrap_0 : wrap64 0 = 0 := by unfold wrap64; omega
theorem wrap_add (a b : Int) : wrap64 (wrap64 a + b) = wrap64 (a + b) := by unfold wrap64; omega
theorem wrap_neg (a : Int) : wrap64 (- wrap64 a) = wrap64 (- a) := by unfold wrap64; omega

theorem take_succ_get {α : Type} (l : List α) (k : Nat) (x : α) (h : l[k]? = some x) : l.take (k + 1) = l.take k ++ [x] := by
  rw [List.take_add_one, h]
  rfl

theorem areaTo_sum (l : List S23) (k : Nat) (hk : k ≤ l.length) : areaTo l k = wrap64 (esum crE ((edgs l).take k)) := by
  induction k with
  | zero => rw [List.take_zero]; exact wrap_0.symm
  | succ k ih =>
    rw [areaTo, ih (by omega), wrap_add, take_succ_get _ _ _ (edgs_get l k (by omega)), esum_app]
    congr 1
    simp [esum, crE]

theorem areaB_sum (l : List S23) : areaB l = if l.length > 2000 ∨ allRight l = false then 0 else wrap64 (esum crE (edgs l)) := by
  unfold areaB
  split
  · rfl
  · rw [areaTo_sum l l.length (Nat.le_refl _)]
    congr 2
    rw [← edgs_length l, List.take_length]

theorem allRight_rev (l : List S23) : allRight l.reverse = allRight l := by unfold allRight; rw [List.all_reverse]
theorem allRight_rot (u v : List S23) : allRight (u ++ v) = allRight (v ++ u) := by unfold allRight; rw [List.all_append, List.all_append, Bool.and_comm]

theorem areaB_rev (l : List S23) : areaB l.reverse = wrap64 (- areaB l) := by
  rw [areaB_sum, areaB_sum, allRight_rev, List.length_reverse, esum_rev crE_neg]
  split
  · exact wrap_0.symm
  · rw [wrap_neg]

theorem areaB_rot (u v : List S23) : areaB (u ++ v) = areaB (v ++ u) := by
  rw [areaB_sum, areaB_sum, allRight_rot u v, esum_rot crE u v, List.length_append, List.length_append, Nat.add_comm]

/-- The document's trapezoids. -/
def trE (p q : S23) : Int := (p.f0 - q.f0) * (p.f1 + q.f1)

theorem pth_all {P : S23 → Prop} (xs : List S23) : ∀ a : S23, P a → (∀ x ∈ xs, P x) → ∀ e ∈ pth a xs, P e.1 ∧ P e.2 := by
  induction xs with
  | nil => intro a _ _ e he; simp [pth] at he
  | cons c xs ih =>
    intro a ha hx e he
    simp only [pth, List.mem_cons] at he
    have hc := hx c List.mem_cons_self
    rcases he with rfl | he
    · exact ⟨ha, hc⟩
    · exact ih c hc (fun x hx' => hx x (List.mem_cons_of_mem _ hx')) e he

theorem edgs_all {P : S23 → Prop} (l : List S23) (h : ∀ x ∈ l, P x) : ∀ e ∈ edgs l, P e.1 ∧ P e.2 := by
  cases l with
  | nil => intro e he; simp [edgs] at he
  | cons a r =>
    refine pth_all _ a (h a List.mem_cons_self) (fun x hx => ?_)
    rw [List.mem_append] at hx
    rcases hx with hx | hx
    · exact h x (List.mem_cons_of_mem _ hx)
    · rw [List.mem_singleton] at hx; rw [hx]; exact h a List.mem_cons_self

theorem esum_congr {f g : S23 → S23 → Int} (es : List (S23 × S23)) (h : ∀ e ∈ es, f e.1 e.2 = g e.1 e.2) : esum f es = esum g es := by
  unfold esum
  congr 1
  exact List.map_congr_left h

theorem allRight_mem {l : List S23} (h : allRight l = true) : ∀ x ∈ l, rightB x.f0 x.f1 = true := by
  unfold allRight at h
  rw [List.all_eq_true] at h
  exact h

theorem tr_cr (l : List S23) (h : allRight l = true) : esum trE (edgs l) = esum crE (edgs l) := by
  have h1 := edgs_all (P := fun x => rightB x.f0 x.f1 = true) l (allRight_mem h)
  have h2 : esum trE (edgs l) = esum (fun p q => crE p q + ((fun x : S23 => - (x.f0 * x.f1)) q - (fun x : S23 => - (x.f0 * x.f1)) p)) (edgs l) := by
    refine esum_congr _ (fun e he => ?_)
    obtain ⟨ha, hb⟩ := h1 e he
    unfold trE crE crossB
    simp only [ha, hb, show rightB 0 0 = true from by decide, and_self, if_true]
    grind
  rw [h2, esum_add, edgs_tele]
  omega

theorem right_get {l : List S23} (h : allRight l = true) (k : Nat) (hk : k < l.length) : rightB (l.getD k z23).f0 (l.getD k z23).f1 = true := by
  have : l.getD k z23 = l[k] := by simp [List.getD, hk]
  rw [this]
  exact allRight_mem h _ (List.getElem_mem hk)

theorem tr_wrap {p q : S23} (hp : rightB p.f0 p.f1 = true) (hq : rightB q.f0 q.f1 = true) : wrap64 ((wrap64 (p.f0 - q.f0)) * (wrap64 (p.f1 + q.f1))) = trE p q := by
  rw [rightB_iff] at hp hq
  have e1 : wrap64 (p.f0 - q.f0) = p.f0 - q.f0 := by unfold wrap64; omega
  have e2 : wrap64 (p.f1 + q.f1) = p.f1 + q.f1 := by unfold wrap64; omega
  have m := mul_bd (a := p.f0 - q.f0) (b := p.f1 + q.f1) (by omega) (by omega)
  rw [e1, e2]
  unfold trE
  generalize (p.f0 - q.f0) * (p.f1 + q.f1) = x at *
  unfold wrap64
  omega

/-- One round of the document's loop, from point i on. -/
theorem refArea_round (k : Nat) (l : List S23) (hl : l.length ≤ 2000) (acc : Int) (i : Nat) (hi : i < l.length) :
    cobwebref04_Area.l0 (k + 2) l acc i = if rightB (l.getD i z23).f0 (l.getD i z23).f1 = true then
      (if rightB (l.getD ((i + 1) % l.length) z23).f0 (l.getD ((i + 1) % l.length) z23).f1 = true then
        cobwebref04_Area.l0 k l (wrap64 (acc + wrap64 ((wrap64 ((l.getD i z23).f0 - (l.getD ((i + 1) % l.length) z23).f0)) * (wrap64 ((l.getD i z23).f1 + (l.getD ((i + 1) % l.length) z23).f1))))) ((i + 1 : Nat) : Int)
      else cobwebref04_Area.l0 k l acc ((i + 1 : Nat) : Int)) else some 0 := by
  have hw : wrap64 ((i : Int) + 1) = ((i + 1 : Nat) : Int) := by unfold wrap64; omega
  rw [cobwebref04_Area.l0, if_pos (by omega), if_pos (by omega), if_pos (by omega), hw]
  have e1 : rd_T23 l (i : Int) = l.getD i z23 := by unfold rd_T23; rw [Int.toNat_natCast]
  by_cases h : i + 1 < l.length
  · have e2 : rd_T23 l ((i + 1 : Nat) : Int) = l.getD ((i + 1) % l.length) z23 := by unfold rd_T23; rw [Int.toNat_natCast, Nat.mod_eq_of_lt h]
    rw [if_pos (by omega), if_pos (by omega), cobwebref04_Area.j1, e1, e2, refRight_f, refRight_f, hw]
    rfl
  · have e2 : rd_T23 l 0 = l.getD ((i + 1) % l.length) z23 := by
      have : (i + 1) % l.length = 0 := by rw [show i + 1 = l.length by omega, Nat.mod_self]
      rw [this]
      rfl
    rw [if_neg (by omega), cobwebref04_Area.j1, e1, e2, refRight_f, refRight_f, hw]
    rfl

theorem refArea_right (l : List S23) (hl : l.length ≤ 2000) (ha : allRight l = true) (d : Nat) : ∀ (k i : Nat), i + d = l.length → 2 * d < k →
    cobwebref04_Area.l0 k l (wrap64 (esum trE ((edgs l).take i))) i = some (wrap64 (esum trE (edgs l))) := by
  induction d with
  | zero =>
    intro k i hi hk
    obtain ⟨k, rfl⟩ : ∃ q, k = q + 1 := ⟨k - 1, by omega⟩
    rw [cobwebref04_Area.l0, if_neg (by omega)]
    congr 3
    rw [show i = (edgs l).length by rw [edgs_length]; omega, List.take_length]
  | succ d ih =>
    intro k i hi hk
    obtain ⟨k, rfl⟩ : ∃ q, k = q + 2 := ⟨k - 2, by omega⟩
    have r1 := right_get ha i (by omega)
    have r2 := right_get ha ((i + 1) % l.length) (Nat.mod_lt _ (by omega))
    rw [refArea_round k l hl _ i (by omega), if_pos r1, if_pos r2, tr_wrap r1 r2, wrap_add]
    have e : esum trE ((edgs l).take i) + trE (l.getD i z23) (l.getD ((i + 1) % l.length) z23) = esum trE ((edgs l).take (i + 1)) := by
      rw [take_succ_get _ _ _ (edgs_get l i (by omega)), esum_app]
      simp [esum]
    rw [e]
    exact ih k (i + 1) (by omega) (by omega)

theorem refArea_wrong (l : List S23) (hl : l.length ≤ 2000) (d : Nat) : ∀ (k i : Nat) (acc : Int), i + d = l.length → 2 * d < k → (∃ j, i ≤ j ∧ j < l.length ∧ rightB (l.getD j z23).f0 (l.getD j z23).f1 = false) →
    cobwebref04_Area.l0 k l acc i = some 0 := by
  induction d with
  | zero => intro k i acc hi hk h; obtain ⟨j, h1, h2, _⟩ := h; omega
  | succ d ih =>
    intro k i acc hi hk h
    obtain ⟨k, rfl⟩ : ∃ q, k = q + 2 := ⟨k - 2, by omega⟩
    rw [refArea_round k l hl _ i (by omega)]
    by_cases r1 : rightB (l.getD i z23).f0 (l.getD i z23).f1 = true
    · have h' : ∃ j, i + 1 ≤ j ∧ j < l.length ∧ rightB (l.getD j z23).f0 (l.getD j z23).f1 = false := by
        obtain ⟨j, h1, h2, h3⟩ := h
        refine ⟨j, ?_, h2, h3⟩
        by_cases hj : j = i
        · subst hj; rw [r1] at h3; cases h3
        · omega
      rw [if_pos r1]
      split
      · exact ih k (i + 1) _ (by omega) (by omega) h'
      · exact ih k (i + 1) _ (by omega) (by omega) h'
    · rw [if_neg r1]

theorem refArea_f (l : List S23) (hl : l.length ≤ 2000) (k : Nat) (hk : 2 * l.length < k) : cobwebref04_Area.f k l = some (areaB l) := by
  unfold cobwebref04_Area.f
  rw [if_neg (by omega), areaB_sum]
  cases ha : allRight l with
  | true =>
    have h := refArea_right l hl ha l.length k 0 (by omega) (by omega)
    rw [if_neg (by simp; omega), ← tr_cr l ha]
    rw [List.take_zero, show esum trE [] = 0 from rfl, wrap_0] at h
    exact h
  | false =>
    rw [if_pos (Or.inr rfl)]
    refine refArea_wrong l hl l.length k 0 0 (by omega) (by omega) ?_
    unfold allRight at ha
    rw [List.all_eq_false] at ha
    obtain ⟨x, hx, hr⟩ := ha
    obtain ⟨j, hj, rfl⟩ := List.mem_iff_getElem.1 hx
    refine ⟨j, Nat.zero_le _, hj, ?_⟩
    simp only [Bool.not_eq_true] at hr
    simpa [List.getD, hj] using hr

theorem refArea_any (A : Option Addr) (c : Nat) (l : List S23) (w : World) (hr : Kd.C k23 w A l.length l) (hc : l.length ≤ c) (hl : l.length ≤ 2000) :
    Calls Try.prog 43 #[.slice A l.length c] w fun e w' => e = .returned (.int .i64 (areaB l)) ∧ Below w.heap.size w w' :=
  cobwebref04_Area.calls (2 * l.length + 1) A c l _ w hr hc (refArea_f l hl _ (by omega))
end Go.Proofs.Ytpfgjagpaddcpaa.Own
