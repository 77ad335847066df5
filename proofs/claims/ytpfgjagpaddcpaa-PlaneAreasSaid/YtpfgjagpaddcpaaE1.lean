import Derived.Test.YtpfgjagpaddcpaaX0
/-! A ring's edges, as a list: begun elsewhere they are the same, the other way round they are turned; sums over them. No program here. -/
namespace Go.Proofs.Ytpfgjagpaddcpaa.Own
open Go.Proofs.Ytpfgjagpaddcpaa.X
set_option linter.unusedVariables false
set_option linter.unusedSimpArgs false

/-- The steps of a path from a on. -/
def pth : S23 → List S23 → List (S23 × S23)
  | _, [] => []
  | a, b :: r => (a, b) :: pth b r

/-- A ring's edges, from its first point on, the last one to the first. -/
def edgs : List S23 → List (S23 × S23)
  | [] => []
  | a :: r => pth a (r ++ [a])

theorem pth_append (xs : List S23) : ∀ (a b : S23) (ys : List S23), pth a (xs ++ b :: ys) = pth a (xs ++ [b]) ++ pth b ys := by
  induction xs with
  | nil => intro a b ys; rfl
  | cons c xs ih => intro a b ys; simp [pth, ih c b ys]

theorem edgs_rot (u v : List S23) : (edgs (u ++ v)).Perm (edgs (v ++ u)) := by
  cases u with
  | nil => simp
  | cons a u =>
    cases v with
    | nil => simp
    | cons b v =>
      have h1 : edgs (a :: u ++ b :: v) = pth a (u ++ [b]) ++ pth b (v ++ [a]) := by
        show pth a ((u ++ b :: v) ++ [a]) = _
        rw [List.append_assoc, List.cons_append, pth_append]
      have h2 : edgs (b :: v ++ a :: u) = pth b (v ++ [a]) ++ pth a (u ++ [b]) := by
        show pth b ((v ++ a :: u) ++ [b]) = _
        rw [List.append_assoc, List.cons_append, pth_append]
      rw [h1, h2]
      exact List.perm_append_comm

def swp (e : S23 × S23) : S23 × S23 := (e.2, e.1)

theorem pth_rev (xs : List S23) : ∀ a b : S23, pth b (xs.reverse ++ [a]) = ((pth a (xs ++ [b])).map swp).reverse := by
  induction xs with
  | nil => intro a b; rfl
  | cons c xs ih =>
    intro a b
    have h1 : (c :: xs).reverse ++ [a] = xs.reverse ++ c :: [a] := by simp
    rw [h1, pth_append, ih c b]
    simp [pth, swp]

theorem edgs_rev (l : List S23) : (edgs l.reverse).Perm ((edgs l).map swp) := by
  cases l with
  | nil => exact List.Perm.refl _
  | cons a r =>
    have h1 : (a :: r).reverse = r.reverse ++ [a] := by simp
    rw [h1]
    refine (edgs_rot r.reverse [a]).trans ?_
    show (pth a (r.reverse ++ [a])).Perm _
    rw [pth_rev r a a]
    exact List.reverse_perm _

theorem pth_length (xs : List S23) : ∀ a : S23, (pth a xs).length = xs.length := by
  induction xs with
  | nil => intro a; rfl
  | cons c xs ih => intro a; simp [pth, ih c]

theorem edgs_length (l : List S23) : (edgs l).length = l.length := by
  cases l with
  | nil => rfl
  | cons a r => simp [edgs, pth_length]

theorem pth_get (xs : List S23) : ∀ (a : S23) (k : Nat), k < xs.length → (pth a xs)[k]? = some ((a :: xs).getD k z23, xs.getD k z23) := by
  induction xs with
  | nil => intro a k h; simp at h
  | cons c xs ih =>
    intro a k h
    cases k with
    | zero => simp [pth]
    | succ k =>
      have := ih c k (by simpa using h)
      simp only [pth, List.getElem?_cons_succ, List.getD_cons_succ]
      rw [this]

theorem edgs_get (l : List S23) (k : Nat) (h : k < l.length) : (edgs l)[k]? = some (l.getD k z23, l.getD ((k + 1) % l.length) z23) := by
  cases l with
  | nil => simp at h
  | cons a r =>
    show (pth a (r ++ [a]))[k]? = _
    rw [pth_get _ _ _ (by simpa using h)]
    have hk : k ≤ r.length := by simpa [Nat.lt_succ_iff] using h
    have e1 : (a :: (r ++ [a])).getD k z23 = (a :: r).getD k z23 := by
      rw [List.getD_eq_getElem?_getD, List.getD_eq_getElem?_getD]
      congr 1
      rw [← List.cons_append, List.getElem?_append_left h]
    have e2 : (r ++ [a]).getD k z23 = (a :: r).getD ((k + 1) % (a :: r).length) z23 := by
      rw [List.getD_eq_getElem?_getD, List.getD_eq_getElem?_getD]
      congr 1
      by_cases hk2 : k < r.length
      · rw [List.getElem?_append_left hk2, Nat.mod_eq_of_lt (by simp; omega)]
        simp
      · have : k = r.length := by omega
        subst this
        rw [List.getElem?_append_right (Nat.le_refl _)]
        have : (r.length + 1) % (a :: r).length = 0 := by simp
        rw [this]
        simp
    rw [e1, e2]

/-- The sum of f over edges. -/
def esum (f : S23 → S23 → Int) (es : List (S23 × S23)) : Int := (es.map fun e => f e.1 e.2).sum

theorem sum_perm {a b : List Int} (h : a.Perm b) : a.sum = b.sum := by
  induction h with
  | nil => rfl
  | cons x _ ih => simp only [List.sum_cons, ih]
  | swap x y l => simp only [List.sum_cons]; omega
  | trans _ _ ih1 ih2 => exact ih1.trans ih2

theorem esum_perm {f : S23 → S23 → Int} {a b : List (S23 × S23)} (h : a.Perm b) : esum f a = esum f b := by
  unfold esum
  exact sum_perm (h.map _)

theorem esum_rot (f : S23 → S23 → Int) (u v : List S23) : esum f (edgs (u ++ v)) = esum f (edgs (v ++ u)) := esum_perm (edgs_rot u v)

theorem esum_neg {f g : S23 → S23 → Int} (h : ∀ a b, f b a = - g a b) (es : List (S23 × S23)) : esum f (es.map swp) = - esum g es := by
  induction es with
  | nil => rfl
  | cons e es ih =>
    have h1 : esum f ((e :: es).map swp) = f e.2 e.1 + esum f (es.map swp) := rfl
    have h2 : esum g (e :: es) = g e.1 e.2 + esum g es := rfl
    rw [h1, h2, ih, h]
    omega

theorem esum_rev {f : S23 → S23 → Int} (h : ∀ a b, f b a = - f a b) (l : List S23) : esum f (edgs l.reverse) = - esum f (edgs l) := by
  rw [esum_perm (edgs_rev l), esum_neg h]

theorem esum_add (f g : S23 → S23 → Int) (es : List (S23 × S23)) : esum (fun a b => f a b + g a b) es = esum f es + esum g es := by
  unfold esum
  induction es with
  | nil => rfl
  | cons e es ih => simp only [List.map_cons, List.sum_cons, ih]; omega

theorem esum_app (f : S23 → S23 → Int) (a b : List (S23 × S23)) : esum f (a ++ b) = esum f a + esum f b := by
  unfold esum
  rw [List.map_append, List.sum_append]

theorem pth_tele (f : S23 → Int) (xs : List S23) : ∀ a b : S23, esum (fun p q => f q - f p) (pth a (xs ++ [b])) = f b - f a := by
  induction xs with
  | nil => intro a b; simp [pth, esum]
  | cons c xs ih =>
    intro a b
    have := ih c b
    simp only [List.cons_append, pth, esum, List.map_cons, List.sum_cons] at *
    omega

/-- Around a ring, what is told of points alone comes to nothing. -/
theorem edgs_tele (f : S23 → Int) (l : List S23) : esum (fun p q => f q - f p) (edgs l) = 0 := by
  cases l with
  | nil => rfl
  | cons a r =>
    show esum _ (pth a (r ++ [a])) = 0
    rw [pth_tele]
    omega

theorem any_perm {p : S23 × S23 → Bool} {a b : List (S23 × S23)} (h : a.Perm b) : a.any p = b.any p := by
  rw [Bool.eq_iff_iff, List.any_eq_true, List.any_eq_true]
  constructor
  · rintro ⟨x, hx, hp⟩; exact ⟨x, h.mem_iff.1 hx, hp⟩
  · rintro ⟨x, hx, hp⟩; exact ⟨x, h.mem_iff.2 hx, hp⟩

end Go.Proofs.Ytpfgjagpaddcpaa.Own
