import Derived.Test.YtpfgjagpaddcpaaWi1
import Derived.Test.YtpfgjagpaddcpaaBa6
/-! Texts that this law leans on, put together by a program of this session: Q2 G7. -/
/-! Wind by a ray to the right, and by a ray upwards: the same around rings; the reference's edges, right and Wind. -/
namespace Go.Proofs.Ytpfgjagpaddcpaa.Own
open Go.RowKit Go.Proofs.YtpfgjagpaddcpaaW.PrintWords Go.Proofs.YtpfgjagpaddcpaaW.PrintLast Go.Proofs.YtpfgjagpaddcpaaW.PrintMore
open Go.Proofs.Ytpfgjagpaddcpaa.X
set_option linter.unusedVariables false
set_option linter.unusedSimpArgs false

theorem mul_np {a b : Int} (ha : 0 ≤ a) (hb : b ≤ 0) : a * b ≤ 0 := Int.mul_nonpos_of_nonneg_of_nonpos ha hb
theorem mul_pn {a b : Int} (ha : a ≤ 0) (hb : 0 ≤ b) : a * b ≤ 0 := Int.mul_nonpos_of_nonpos_of_nonneg ha hb
theorem mul_pp {a b : Int} (ha : a ≤ 0) (hb : b ≤ 0) : 0 ≤ a * b := Int.mul_nonneg_of_nonpos_of_nonpos ha hb

/-- What the ray to the right counts, and the ray upwards; both relative to the place; c: the product. -/
def rW (ax ay bx bY c : Int) : Int := if ay ≤ 0 ∧ ¬ bY ≤ 0 ∧ ¬ c ≤ 0 then 1 else if bY ≤ 0 ∧ ¬ ay ≤ 0 ∧ ¬ 0 ≤ c then -1 else 0
def uW (ax ay bx bY c : Int) : Int := (if ¬ ax ≤ 0 ∧ bx ≤ 0 ∧ ¬ c ≤ 0 then 1 else 0) + (if ¬ bx ≤ 0 ∧ ax ≤ 0 ∧ ¬ 0 ≤ c then -1 else 0)
def qd (x y : Int) : Int := if ¬ x ≤ 0 ∧ ¬ y ≤ 0 then 1 else 0

theorem rays (ax ay bx bY c : Int) (hc : c = ax * bY - bx * ay) (h : ¬ (c = 0 ∧ ((ax ≤ 0 ∧ 0 ≤ bx) ∨ (bx ≤ 0 ∧ 0 ≤ ax)) ∧ ((ay ≤ 0 ∧ 0 ≤ bY) ∨ (bY ≤ 0 ∧ 0 ≤ ay)))) :
    rW ax ay bx bY c - uW ax ay bx bY c = qd bx bY - qd ax ay := by
  have a1 : 0 < ax → 0 < bY → 0 < ax * bY := Int.mul_pos
  have a2 : 0 ≤ ax → 0 ≤ bY → 0 ≤ ax * bY := Int.mul_nonneg
  have a3 : ax ≤ 0 → 0 ≤ bY → ax * bY ≤ 0 := mul_pn
  have a4 : 0 ≤ ax → bY ≤ 0 → ax * bY ≤ 0 := mul_np
  have a5 : ax ≤ 0 → bY ≤ 0 → 0 ≤ ax * bY := mul_pp
  have b1 : 0 < bx → 0 < ay → 0 < bx * ay := Int.mul_pos
  have b2 : 0 ≤ bx → 0 ≤ ay → 0 ≤ bx * ay := Int.mul_nonneg
  have b3 : bx ≤ 0 → 0 ≤ ay → bx * ay ≤ 0 := mul_pn
  have b4 : 0 ≤ bx → ay ≤ 0 → bx * ay ≤ 0 := mul_np
  have b5 : bx ≤ 0 → ay ≤ 0 → 0 ≤ bx * ay := mul_pp
  unfold rW uW qd
  revert hc a1 a2 a3 a4 a5 b1 b2 b3 b4 b5
  generalize ax * bY = p
  generalize bx * ay = q
  intro hc a1 a2 a3 a4 a5 b1 b2 b3 b4 b5
  by_cases h1 : ax ≤ 0 <;> by_cases h2 : ay ≤ 0 <;> by_cases h3 : bx ≤ 0 <;> by_cases h4 : bY ≤ 0 <;> by_cases h5 : c ≤ 0 <;> by_cases h6 : 0 ≤ c <;>
    simp only [h1, h2, h3, h4, h5, h6, true_and, false_and, and_true, and_false, not_true, not_false_iff, if_true, if_false] <;> omega

/-- Is a point right, and so twice it. -/
def okP (p : S23) : Bool := rightB p.f0 p.f1 && rightB (2 * p.f0) (2 * p.f1)
theorem okP_tw (p : S23) : rightB (tw p).f0 (tw p).f1 = okP p := by
  unfold tw okP
  cases h : rightB p.f0 p.f1 with
  | true => simp
  | false => simp; decide
theorem tw_of {p : S23} (h : okP p = true) : tw p = ⟨2 * p.f0, 2 * p.f1⟩ := by
  unfold okP at h
  rw [Bool.and_eq_true] at h
  unfold tw
  rw [if_pos h.1]

theorem pth_fst (xs : List S23) : ∀ a b : S23, (pth a (xs ++ [b])).map Prod.fst = a :: xs := by
  induction xs with
  | nil => intro a b; rfl
  | cons c xs ih => intro a b; simp [pth, ih c b]
theorem edgs_fst (l : List S23) : (edgs l).map Prod.fst = l := by
  cases l with
  | nil => rfl
  | cons a r => exact pth_fst r a a
theorem pth_snd (xs : List S23) : ∀ a b : S23, (pth a (xs ++ [b])).map Prod.snd = xs ++ [b] := by
  induction xs with
  | nil => intro a b; rfl
  | cons c xs ih => intro a b; simp [pth, ih c b]
theorem edgs_snd (l : List S23) : ∀ e ∈ edgs l, e.2 ∈ l := by
  cases l with
  | nil => intro e h; cases h
  | cons a r =>
    intro e h
    have h1 : e.2 ∈ (pth a (r ++ [a])).map Prod.snd := List.mem_map.2 ⟨e, h, rfl⟩
    rw [pth_snd] at h1
    simp at h1 ⊢
    rcases h1 with h1 | h1
    · exact Or.inr h1
    · exact Or.inl h1
theorem all_fst (l : List S23) : (edgs l).all okE = l.all okP := by
  conv => rhs; rw [← edgs_fst l, List.all_map]
  congr 1
  funext e
  exact okP_tw e.1

/-- Are all points right, twice, and the place. -/
def rightL (ls : List (List S23)) (x y : Int) : Bool := ls.all (fun r => r.all okP) && rightB x y
theorem rightL_ok (ls : List (List S23)) (x y : Int) : okAll x y (allE ls) = rightL ls x y := by
  unfold okAll rightL allE
  rw [Bool.and_comm]
  congr 1
  induction ls with
  | nil => rfl
  | cons r rs ih => simp only [List.flatMap_cons, List.all_append, List.all_cons, ih, all_fst]

/-! #### the two rays -/
theorem cross_rel (ax ay bx by_ x y : Int) (h1 : rightB ax ay = true) (h2 : rightB bx by_ = true) (h3 : rightB x y = true) : crossB ax ay bx by_ x y = (ax - x) * (by_ - y) - (bx - x) * (ay - y) := by
  unfold crossB
  rw [if_pos ⟨h1, h2, h3⟩]
  grind

/-- What an edge adds by the ray upwards. -/
def uE (x y : Int) (e : S23 × S23) : Int := uW ((tw e.1).f0 - x) ((tw e.1).f1 - y) ((tw e.2).f0 - x) ((tw e.2).f1 - y) (crossB (tw e.1).f0 (tw e.1).f1 (tw e.2).f0 (tw e.2).f1 x y)

theorem sgn_pos (n : Int) : 0 < sgn n ↔ 0 < n := by unfold sgn; split <;> (try split) <;> omega
theorem sgn_neg (n : Int) : sgn n < 0 ↔ n < 0 := by unfold sgn; split <;> (try split) <;> omega
theorem sgn_zero (n : Int) : sgn n = 0 ↔ n = 0 := by unfold sgn; split <;> (try split) <;> omega

theorem wnE_rel (x y : Int) (e : S23 × S23) : wnE x y e = rW ((tw e.1).f0 - x) ((tw e.1).f1 - y) ((tw e.2).f0 - x) ((tw e.2).f1 - y) (crossB (tw e.1).f0 (tw e.1).f1 (tw e.2).f0 (tw e.2).f1 x y) := by
  unfold wnE upE dnE rW tuE
  simp only [sgn_pos, sgn_neg, decide_eq_true_eq]
  have e1 : ((tw e.1).f1 ≤ y ∧ y < (tw e.2).f1 ∧ 0 < crossB (tw e.1).f0 (tw e.1).f1 (tw e.2).f0 (tw e.2).f1 x y) ↔ ((tw e.1).f1 - y ≤ 0 ∧ ¬ (tw e.2).f1 - y ≤ 0 ∧ ¬ crossB (tw e.1).f0 (tw e.1).f1 (tw e.2).f0 (tw e.2).f1 x y ≤ 0) := by omega
  have e2 : ((tw e.2).f1 ≤ y ∧ y < (tw e.1).f1 ∧ crossB (tw e.1).f0 (tw e.1).f1 (tw e.2).f0 (tw e.2).f1 x y < 0) ↔ ((tw e.2).f1 - y ≤ 0 ∧ ¬ (tw e.1).f1 - y ≤ 0 ∧ ¬ 0 ≤ crossB (tw e.1).f0 (tw e.1).f1 (tw e.2).f0 (tw e.2).f1 x y) := by omega
  simp only [e1, e2]

/-- The quarter between the rays. -/
def qP (x y : Int) (p : S23) : Int := qd ((tw p).f0 - x) ((tw p).f1 - y)

theorem rays_edge (x y : Int) (e : S23 × S23) (h1 : okP e.1 = true) (h2 : okP e.2 = true) (h3 : rightB x y = true) (hn : onE x y e = false) : wnE x y e - uE x y e = qP x y e.2 - qP x y e.1 := by
  rw [wnE_rel]
  unfold uE qP
  have g1 := (okP_tw e.1).trans h1
  have g2 := (okP_tw e.2).trans h2
  refine rays _ _ _ _ _ (cross_rel _ _ _ _ _ _ g1 g2 h3) ?_
  rintro ⟨c0, c1, c2⟩
  unfold onE onB at hn
  rw [h3, g1, g2] at hn
  simp only [Bool.true_and] at hn
  rw [decide_eq_true ((sgn_zero _).2 c0), Bool.true_and] at hn
  unfold holdsB mn mx at hn
  rw [decide_eq_false_iff_not] at hn
  apply hn
  split <;> split <;> split <;> split <;> omega

theorem rays_ring (x y : Int) (l : List S23) (hl : l.all okP = true) (h3 : rightB x y = true) (hn : (edgs l).any (onE x y) = false) : wsum x y (edgs l) = ((edgs l).map (uE x y)).sum := by
  have ht := edgs_tele (qP x y) l
  have hm : ∀ e ∈ edgs l, wnE x y e - uE x y e = qP x y e.2 - qP x y e.1 := by
    intro e he
    rw [List.all_eq_true] at hl
    have hf : e.1 ∈ l := by
      have : e.1 ∈ (edgs l).map Prod.fst := List.mem_map.2 ⟨e, he, rfl⟩
      rwa [edgs_fst] at this
    refine rays_edge x y e (hl _ hf) (hl _ (edgs_snd l e he)) h3 ?_
    rw [List.any_eq_false] at hn
    simpa using hn e he
  unfold esum at ht
  unfold wsum
  clear hl hn
  generalize edgs l = es at ht hm
  have key : ∀ fs : List (S23 × S23), (∀ e ∈ fs, wnE x y e - uE x y e = qP x y e.2 - qP x y e.1) → (fs.map (wnE x y)).sum - (fs.map (uE x y)).sum = (fs.map fun e => qP x y e.2 - qP x y e.1).sum := by
    intro fs
    induction fs with
    | nil => intro _; rfl
    | cons e fs ih =>
      intro h
      have h1 := h e (List.mem_cons_self ..)
      have h2 := ih (fun e he => h e (List.mem_cons_of_mem _ he))
      simp only [List.map_cons, List.sum_cons]
      omega
  have h1 := key es hm
  have h2 : (es.map fun e => qP x y e.2 - qP x y e.1).sum = 0 := ht
  rw [h2] at h1
  omega

def usum (x y : Int) (es : List (S23 × S23)) : Int := (es.map (uE x y)).sum
theorem rays_all' (x y : Int) (h3 : rightB x y = true) : ∀ ls : List (List S23), (ls.all fun r => r.all okP) = true → (allE ls).any (onE x y) = false → wsum x y (allE ls) = usum x y (allE ls)
  | [], _, _ => rfl
  | r :: rs, h1, hn => by
    have e : allE (r :: rs) = edgs r ++ allE rs := rfl
    rw [e] at hn ⊢
    rw [List.any_append, Bool.or_eq_false_iff] at hn
    rw [List.all_cons, Bool.and_eq_true] at h1
    have i1 := rays_all' x y h3 rs h1.2 hn.2
    have i2 := rays_ring x y r h1.1 h3 hn.1
    unfold wsum usum at *
    rw [List.map_append, List.sum_append, List.map_append, List.sum_append, i1, i2]
theorem rays_all (x y : Int) (ls : List (List S23)) (h : rightL ls x y = true) (hn : (allE ls).any (onE x y) = false) : wsum x y (allE ls) = usum x y (allE ls) := by
  unfold rightL at h
  rw [Bool.and_eq_true] at h
  exact rays_all' x y h.2 ls h.1 hn

/-! #### the reference's edges -/
def tag (t : Int) (e : S23 × S23) : S68 := ⟨e.1, e.2, t⟩

theorem edges1_ev (ls : List (List S23)) (t : Int) (i : Nat) (r : List S23) (hr : r.length ≤ 1000000000000) (rest : List S68) (hl : ls.length ≤ 1000000000000) (hi : i ≤ 1000000000000)
    (hv : ∀ acc : List S68, acc.length + rest.length ≤ 1000000000000 → Ev (fun k => cobwebref11_edges.l0 k ls t acc ((i + 1 : Nat) : Int)) (acc ++ rest)) :
    ∀ (m j : Nat) (acc : List S68), r.length - j = m → j ≤ r.length → acc.length + (r.length - j) + rest.length ≤ 1000000000000 → Ev (fun k => cobwebref11_edges.l1 k ls t acc i r j) (acc ++ (((edgs r).drop j).map (tag t) ++ rest)) := by
  intro m
  induction m with
  | zero =>
    intro j acc hm hj hb
    obtain rfl : j = r.length := by omega
    rw [← edgs_length r, List.drop_length, edgs_length]
    refine Ev.step (hv acc (by omega)) fun k => ?_
    simp only [cobwebref11_edges.l1, if_neg (show ¬ (r.length : Int) < (r.length : Int) by omega)]
    rw [wrap_id (by omega)]
    rfl
  | succ m ih =>
    intro j acc hm hj hb
    have hlt : j < r.length := by omega
    have hlt' : (j : Int) < (r.length : Int) := by omega
    have he : (edgs r).drop j = (r.getD j z23, r.getD ((j + 1) % r.length) z23) :: (edgs r).drop (j + 1) := by
      have h := edgs_get r j hlt
      obtain ⟨h1, h2⟩ := List.getElem?_eq_some_iff.1 h
      rw [List.drop_eq_getElem_cons h1, h2]
    rw [he]
    have hd : acc ++ (((r.getD j z23, r.getD ((j + 1) % r.length) z23) :: (edgs r).drop (j + 1)).map (tag t) ++ rest) = (acc ++ [tag t (r.getD j z23, r.getD ((j + 1) % r.length) z23)]) ++ (((edgs r).drop (j + 1)).map (tag t) ++ rest) := by simp
    rw [hd]
    refine Ev.step (ih (j + 1) _ (by omega) (by omega) (by simp; omega)) fun k => ?_
    have hw : wrap64 ((j : Int) + 1) = (j : Int) + 1 := wrap_id (by omega)
    have hp : rd_T23 r (j : Int) = r.getD j z23 := by simp [rd_T23]
    simp only [cobwebref11_edges.l1, if_pos hlt', if_pos (show (0 : Int) < (r.length : Int) by omega), hw, if_pos (show (0 : Int) ≤ (j : Int) by omega), if_pos (show acc.length < 3518437208883 by omega), if_pos (show (0 : Int) ≤ (j : Int) + 1 by omega), hp]
    by_cases hn : (j : Int) + 1 < (r.length : Int)
    · rw [if_pos hn, Nat.mod_eq_of_lt (by omega)]
      have hq : rd_T23 r ((j : Int) + 1) = r.getD (j + 1) z23 := by unfold rd_T23; congr 1
      rw [hq]
      rfl
    · rw [if_neg hn, show j + 1 = r.length by omega, Nat.mod_self]
      have : (r.length : Int) = (j : Int) + 1 := by omega
      rw [← this]
      rfl

theorem edges_ev (ls : List (List S23)) (t : Int) (hl : ls.length ≤ 1000000000000) : ∀ (m i : Nat) (acc : List S68), ls.length - i = m → i ≤ ls.length → acc.length + (allE (ls.drop i)).length ≤ 1000000000000 →
    Ev (fun k => cobwebref11_edges.l0 k ls t acc i) (acc ++ (allE (ls.drop i)).map (tag t)) := by
  intro m
  induction m with
  | zero =>
    intro i acc hm hi hb
    obtain rfl : i = ls.length := by omega
    rw [List.drop_length]
    refine Ev.step (Ev.const _) fun k => ?_
    simp only [cobwebref11_edges.l0, if_neg (show ¬ (ls.length : Int) < (ls.length : Int) by omega)]
    simp [allE]
  | succ m ih =>
    intro i acc hm hi hb
    have hlt : i < ls.length := by omega
    have he : allE (ls.drop i) = edgs (ls.getD i []) ++ allE (ls.drop (i + 1)) := by rw [getD_drop ls [] i hlt]; rfl
    rw [he, List.length_append, edgs_length] at hb
    rw [he, List.map_append]
    have hr' : rd_L2 ls (i : Int) = ls.getD i [] := by simp [rd_L2]
    generalize ls.getD i [] = r at hr' hb ⊢
    have h1 := edges1_ev ls t i r (by omega) ((allE (ls.drop (i + 1))).map (tag t)) hl (by omega) (fun acc' h => ih (i + 1) acc' (by omega) (by omega) (by simpa using h)) r.length 0 acc (by omega) (by omega) (by simp; omega)
    rw [List.drop_zero] at h1
    refine Ev.step h1 fun k => ?_
    simp only [cobwebref11_edges.l0, if_pos (show (i : Int) < (ls.length : Int) by omega), if_pos (show (0 : Int) ≤ (i : Int) by omega), hr']
    rfl

theorem edges_f (ls : List (List S23)) (t : Int) (hl : ls.length ≤ 1000000000000) (hb : (allE ls).length ≤ 1000000000000) : Ev (fun k => cobwebref11_edges.f k ls t) ((allE ls).map (tag t)) := by
  have := edges_ev ls t hl ls.length 0 [] (by omega) (by omega) (by simpa using hb)
  rw [List.drop_zero, List.nil_append] at this
  exact this.congr fun k => rfl

/-! #### right -/
theorem right1_ev (ls : List (List S23)) (x y N : Int) (i : Nat) (hi : i ≤ 1000000000000) (r : List S23) (hr : r.length ≤ 1000000000000) (v : Bool) (hv : Ev (fun k => cobweblaw11_right.l0 k x y ls N ((i + 1 : Nat) : Int)) v) :
    ∀ (m j : Nat), r.length - j = m → j ≤ r.length → Ev (fun k => cobweblaw11_right.l1 k x y ls N i r r.length j) ((r.drop j).all okP && v) := by
  intro m
  induction m with
  | zero =>
    intro j hm hj
    obtain rfl : j = r.length := by omega
    rw [List.drop_length]
    refine Ev.step hv fun k => ?_
    simp only [cobweblaw11_right.l1, if_neg (show ¬ (r.length : Int) < (r.length : Int) by omega)]
    rw [wrap_id (by omega)]
    rfl
  | succ m ih =>
    intro j hm hj
    have hlt : j < r.length := by omega
    have hlt' : (j : Int) < (r.length : Int) := by omega
    rw [getD_drop r z23 j hlt, List.all_cons]
    have hp : rd_T23 r (j : Int) = r.getD j z23 := by simp [rd_T23]
    generalize r.getD j z23 = p at hp ⊢
    have hs : ∀ k, cobweblaw11_right.l1 (k + 1) x y ls N i r r.length j = if rightB p.f0 p.f1 = true then (if rightB (wrap64 (2 * p.f0)) (wrap64 (2 * p.f1)) = true then cobweblaw11_right.l1 k x y ls N i r r.length (wrap64 ((j : Int) + 1)) else some false) else some false := by
      intro k
      simp only [cobweblaw11_right.l1, if_pos hlt', if_pos (show (0 : Int) ≤ (j : Int) by omega), hp, refRight_f, Option.bind_some]
    cases h1 : rightB p.f0 p.f1 with
    | false =>
      refine Ev.step (Ev.const _) fun k => ?_
      rw [hs, h1]
      simp [okP, h1]
    | true =>
      have h1' := (rightB_iff _ _).1 h1
      have w1 : wrap64 (2 * p.f0) = 2 * p.f0 := wrap_id (by omega)
      have w2 : wrap64 (2 * p.f1) = 2 * p.f1 := wrap_id (by omega)
      cases h2 : rightB (2 * p.f0) (2 * p.f1) with
      | false =>
        refine Ev.step (Ev.const _) fun k => ?_
        rw [hs, h1, w1, w2, h2]
        simp [okP, h1, h2]
      | true =>
        have ho : okP p = true := by simp [okP, h1, h2]
        rw [ho, Bool.true_and]
        refine Ev.step (ih (j + 1) (by omega) (by omega)) fun k => ?_
        rw [hs, h1, w1, w2, h2, wrap_id (by omega)]
        rfl

theorem right_ev (ls : List (List S23)) (x y : Int) (hl : ls.length ≤ 1000000000000) (hls : ∀ r ∈ ls, r.length ≤ 1000000000000) : ∀ (m i : Nat), ls.length - i = m → i ≤ ls.length → Ev (fun k => cobweblaw11_right.l0 k x y ls ls.length i) (rightL (ls.drop i) x y) := by
  intro m
  induction m with
  | zero =>
    intro i hm hi
    obtain rfl : i = ls.length := by omega
    rw [List.drop_length]
    refine Ev.step (Ev.const _) fun k => ?_
    simp only [cobweblaw11_right.l0, if_neg (show ¬ (ls.length : Int) < (ls.length : Int) by omega), refRight_f, Option.bind_some]
    simp [rightL]
  | succ m ih =>
    intro i hm hi
    have hlt : i < ls.length := by omega
    have hmem : ls.getD i [] ∈ ls := by
      rw [List.getD_eq_getElem?_getD, List.getElem?_eq_getElem hlt]
      exact List.getElem_mem _
    have hrl := hls _ hmem
    have he : rightL (ls.drop i) x y = ((ls.getD i []).all okP && rightL (ls.drop (i + 1)) x y) := by
      rw [getD_drop ls [] i hlt]
      simp [rightL, Bool.and_assoc]
    rw [he]
    have hr' : rd_L2 ls (i : Int) = ls.getD i [] := by simp [rd_L2]
    generalize ls.getD i [] = r at hr' hrl ⊢
    have h1 := right1_ev ls x y ls.length i (by omega) r hrl _ (ih (i + 1) (by omega) (by omega)) r.length 0 (by omega) (by omega)
    rw [List.drop_zero] at h1
    refine Ev.step h1 fun k => ?_
    simp only [cobweblaw11_right.l0, if_pos (show (i : Int) < (ls.length : Int) by omega), if_pos (show (0 : Int) ≤ (i : Int) by omega), hr']
    rfl

theorem right_f' (ls : List (List S23)) (x y : Int) (hl : ls.length ≤ 1000000000000) (hls : ∀ r ∈ ls, r.length ≤ 1000000000000) : Ev (fun k => cobweblaw11_right.f k ls x y) (rightL ls x y) := by
  have := right_ev ls x y hl hls ls.length 0 (by omega) (by omega)
  exact this.congr fun k => rfl

/-! #### the reference's Wind -/
theorem on_ev (x y ax ay bx by_ : Int) : Ev (fun k => cobwebref04_On.f k x y ax ay bx by_) (onB x y ax ay bx by_) := Ev.step (Ev.const _) fun k => refOn_f k x y ax ay bx by_
theorem cross_ev (x y ax ay bx by_ : Int) : Ev (fun k => cobwebref04_Cross.f k ax ay bx by_ x y) (crossB ax ay bx by_ x y) := Ev.step (Ev.const _) fun k => refCross_f k ax ay bx by_ x y

theorem wind_ev (x y : Int) (es : List (S23 × S23)) (hx : rightB x y = true) (he : ∀ e ∈ es, okP e.1 = true ∧ okP e.2 = true) (hl : es.length ≤ 1000000000000) : ∀ (m i : Nat) (n : Int), es.length - i = m → i ≤ es.length → -i ≤ n → n ≤ i →
    Ev (fun k => cobwebref11_Wind.l0 k x n (es.map (tag 0)) i x y) (if (es.drop i).any (onE x y) = true then (0, true) else (n + usum x y (es.drop i), false)) := by
  intro m
  induction m with
  | zero =>
    intro i n hm hi h0 h1
    obtain rfl : i = es.length := by omega
    rw [List.drop_length]
    refine Ev.step (Ev.const _) fun k => ?_
    simp [cobwebref11_Wind.l0, usum]
  | succ m ih =>
    intro i n hm hi h0 h1
    have hlt : i < es.length := by omega
    have hm1 : es.length - (i + 1) = m := by omega
    have hi1 : i + 1 ≤ es.length := by omega
    have ih' := fun n' (q1 : -((i + 1 : Nat) : Int) ≤ n') (q2 : n' ≤ ((i + 1 : Nat) : Int)) => ih (i + 1) n' hm1 hi1 q1 q2
    clear ih
    have hmem : es[i] ∈ es := List.getElem_mem _
    have hok := he _ hmem
    have hrd : rd_T68 (es.map (tag 0)) (i : Int) = tag 0 es[i] := by
      simp [rd_T68, List.getD_eq_getElem?_getD, hlt]
    rw [List.drop_eq_getElem_cons hlt, List.any_cons]
    have hus : usum x y (es[i] :: es.drop (i + 1)) = uE x y es[i] + usum x y (es.drop (i + 1)) := rfl
    rw [hus]
    generalize es[i] = e at hok hrd ⊢
    obtain ⟨g1, g2⟩ := hok
    have t1 := tw_of g1
    have t2 := tw_of g2
    have r1 := (rightB_iff _ _).1 ((okP_tw e.1).trans g1)
    have r2 := (rightB_iff _ _).1 ((okP_tw e.2).trans g2)
    have b1 : cobwebref11_twice.f e.1.f0 e.1.f1 = some ((tw e.1).f0, (tw e.1).f1) := by
      unfold cobwebref11_twice.f
      rw [t1] at r1 ⊢
      simp only at r1 ⊢
      rw [wrap_id (by omega), wrap_id (by omega)]
    have b2 : cobwebref11_twice.f e.2.f0 e.2.f1 = some ((tw e.2).f0, (tw e.2).f1) := by
      unfold cobwebref11_twice.f
      rw [t2] at r2 ⊢
      simp only at r2 ⊢
      rw [wrap_id (by omega), wrap_id (by omega)]
    have hstep : ∀ k, cobwebref11_Wind.l0 (k + 1) x n (es.map (tag 0)) i x y = (cobwebref04_On.f k x y (tw e.1).f0 (tw e.1).f1 (tw e.2).f0 (tw e.2).f1).bind fun t332 => if t332 = true then some (0, true) else (if (tw e.1).f0 > x then (if (tw e.2).f0 ≤ x then ((cobwebref04_Cross.f k (tw e.1).f0 (tw e.1).f1 (tw e.2).f0 (tw e.2).f1 x y).bind fun t333 => cobwebref11_Wind.j1 k x n (es.map (tag 0)) i (decide (t333 > 0)) x y (tw e.1).f0 (tw e.1).f1 (tw e.2).f0 (tw e.2).f1) else cobwebref11_Wind.j1 k x n (es.map (tag 0)) i false x y (tw e.1).f0 (tw e.1).f1 (tw e.2).f0 (tw e.2).f1) else cobwebref11_Wind.j1 k x n (es.map (tag 0)) i false x y (tw e.1).f0 (tw e.1).f1 (tw e.2).f0 (tw e.2).f1) := by
      intro k
      simp only [cobwebref11_Wind.l0, List.length_map, if_pos (show (i : Int) < (es.length : Int) by omega), if_pos (show (0 : Int) ≤ (i : Int) by omega), hrd, tag, b1, b2, Option.bind_some]
    refine Ev.step (h := fun k => (cobwebref04_On.f k x y (tw e.1).f0 (tw e.1).f1 (tw e.2).f0 (tw e.2).f1).bind fun t332 => if t332 = true then some (0, true) else (if (tw e.1).f0 > x then (if (tw e.2).f0 ≤ x then ((cobwebref04_Cross.f k (tw e.1).f0 (tw e.1).f1 (tw e.2).f0 (tw e.2).f1 x y).bind fun t333 => cobwebref11_Wind.j1 k x n (es.map (tag 0)) i (decide (t333 > 0)) x y (tw e.1).f0 (tw e.1).f1 (tw e.2).f0 (tw e.2).f1) else cobwebref11_Wind.j1 k x n (es.map (tag 0)) i false x y (tw e.1).f0 (tw e.1).f1 (tw e.2).f0 (tw e.2).f1) else cobwebref11_Wind.j1 k x n (es.map (tag 0)) i false x y (tw e.1).f0 (tw e.1).f1 (tw e.2).f0 (tw e.2).f1)) ?_ hstep
    refine Ev.bind (f := fun k t332 => if t332 = true then some (0, true) else (if (tw e.1).f0 > x then (if (tw e.2).f0 ≤ x then ((cobwebref04_Cross.f k (tw e.1).f0 (tw e.1).f1 (tw e.2).f0 (tw e.2).f1 x y).bind fun t333 => cobwebref11_Wind.j1 k x n (es.map (tag 0)) i (decide (t333 > 0)) x y (tw e.1).f0 (tw e.1).f1 (tw e.2).f0 (tw e.2).f1) else cobwebref11_Wind.j1 k x n (es.map (tag 0)) i false x y (tw e.1).f0 (tw e.1).f1 (tw e.2).f0 (tw e.2).f1) else cobwebref11_Wind.j1 k x n (es.map (tag 0)) i false x y (tw e.1).f0 (tw e.1).f1 (tw e.2).f0 (tw e.2).f1)) (on_ev x y _ _ _ _) ?_
    clear hstep
    change Ev (fun k => if onE x y e = true then some (0, true) else _) _
    cases hon : onE x y e with
    | true => simp only [if_true, Bool.true_or]; exact Ev.const _
    | false =>
      simp only [Bool.false_eq_true, if_false, Bool.false_or]
      -- what the edge adds
      have hu : uE x y e = (if (tw e.1).f0 > x ∧ (tw e.2).f0 ≤ x ∧ 0 < crossB (tw e.1).f0 (tw e.1).f1 (tw e.2).f0 (tw e.2).f1 x y then 1 else 0) + (if (tw e.2).f0 > x ∧ (tw e.1).f0 ≤ x ∧ crossB (tw e.1).f0 (tw e.1).f1 (tw e.2).f0 (tw e.2).f1 x y < 0 then -1 else 0) := by
        unfold uE uW
        have e1 : (¬ (tw e.1).f0 - x ≤ 0 ∧ (tw e.2).f0 - x ≤ 0 ∧ ¬ crossB (tw e.1).f0 (tw e.1).f1 (tw e.2).f0 (tw e.2).f1 x y ≤ 0) ↔ ((tw e.1).f0 > x ∧ (tw e.2).f0 ≤ x ∧ 0 < crossB (tw e.1).f0 (tw e.1).f1 (tw e.2).f0 (tw e.2).f1 x y) := by omega
        have e2 : (¬ (tw e.2).f0 - x ≤ 0 ∧ (tw e.1).f0 - x ≤ 0 ∧ ¬ 0 ≤ crossB (tw e.1).f0 (tw e.1).f1 (tw e.2).f0 (tw e.2).f1 x y) ↔ ((tw e.2).f0 > x ∧ (tw e.1).f0 ≤ x ∧ crossB (tw e.1).f0 (tw e.1).f1 (tw e.2).f0 (tw e.2).f1 x y < 0) := by omega
        simp only [e1, e2]
      have wi : wrap64 ((i : Int) + 1) = ((i + 1 : Nat) : Int) := by rw [wrap_id (by omega)]; rfl
      have hcr := cross_ev x y (tw e.1).f0 (tw e.1).f1 (tw e.2).f0 (tw e.2).f1
      clear b1 b2 t1 t2 r1 r2 hrd
      generalize crossB (tw e.1).f0 (tw e.1).f1 (tw e.2).f0 (tw e.2).f1 x y = c at hu hcr
      generalize (tw e.1).f0 = ax at hu hcr ⊢
      generalize (tw e.2).f0 = bx at hu hcr ⊢
      generalize (tw e.1).f1 = ay at hu hcr ⊢
      generalize (tw e.2).f1 = by_ at hu hcr ⊢
      -- j1 with a false test
      have jf : Ev (fun k => cobwebref11_Wind.j1 k x n (es.map (tag 0)) i false x y ax ay bx by_) (if (es.drop (i + 1)).any (onE x y) = true then (0, true) else ((if bx > x ∧ ax ≤ x ∧ c < 0 then n - 1 else n) + usum x y (es.drop (i + 1)), false)) := by
        by_cases k1 : bx > x
        · by_cases k2 : ax ≤ x
          · refine Ev.step (h := fun k => (cobwebref04_Cross.f k ax ay bx by_ x y).bind fun t335 => if t335 < 0 then cobwebref11_Wind.l0 k x (wrap64 (n - 1)) (es.map (tag 0)) (wrap64 ((i : Int) + 1)) x y else cobwebref11_Wind.l0 k x n (es.map (tag 0)) (wrap64 ((i : Int) + 1)) x y) ?_ fun k => by
              simp only [cobwebref11_Wind.j1, Bool.false_eq_true, if_false, if_pos k1, if_pos k2]
            refine Ev.bind (f := fun k t335 => if t335 < 0 then cobwebref11_Wind.l0 k x (wrap64 (n - 1)) (es.map (tag 0)) (wrap64 ((i : Int) + 1)) x y else cobwebref11_Wind.l0 k x n (es.map (tag 0)) (wrap64 ((i : Int) + 1)) x y) hcr ?_
            rw [wi, wrap_id (n := n - 1) (by omega)]
            by_cases k3 : c < 0
            · simp only [if_pos k3, if_pos (show bx > x ∧ ax ≤ x ∧ c < 0 from ⟨k1, k2, k3⟩)]
              exact ih' (n - 1) (by omega) (by omega)
            · simp only [if_neg k3, if_neg (show ¬ (bx > x ∧ ax ≤ x ∧ c < 0) from fun h => k3 h.2.2)]
              exact ih' n (by omega) (by omega)
          · rw [if_neg (show ¬ (bx > x ∧ ax ≤ x ∧ c < 0) from fun h => k2 h.2.1)]
            refine Ev.step (ih' n (by omega) (by omega)) fun k => by
              simp only [cobwebref11_Wind.j1, Bool.false_eq_true, if_false, if_pos k1, if_neg k2, wi]
        · rw [if_neg (show ¬ (bx > x ∧ ax ≤ x ∧ c < 0) from fun h => k1 h.1)]
          refine Ev.step (ih' n (by omega) (by omega)) fun k => by
            simp only [cobwebref11_Wind.j1, Bool.false_eq_true, if_false, if_neg k1, wi]
      by_cases k1 : ax > x
      · have n2 : ¬ ax ≤ x := by omega
        have hq : (if bx > x ∧ ax ≤ x ∧ c < 0 then n - 1 else n) = n := if_neg (fun h => n2 h.2.1)
        rw [hq] at jf
        rw [if_neg (show ¬ (bx > x ∧ ax ≤ x ∧ c < 0) from fun h => n2 h.2.1)] at hu
        simp only [if_pos k1]
        by_cases k2 : bx ≤ x
        · simp only [if_pos k2]
          refine Ev.bind (f := fun k t333 => cobwebref11_Wind.j1 k x n (es.map (tag 0)) i (decide (t333 > 0)) x y ax ay bx by_) hcr ?_
          by_cases k3 : 0 < c
          · rw [if_pos (show ax > x ∧ bx ≤ x ∧ 0 < c from ⟨k1, k2, k3⟩)] at hu
            rw [hu, decide_eq_true (show c > 0 from k3), show n + ((1 : Int) + 0 + usum x y (es.drop (i + 1))) = (n + 1) + usum x y (es.drop (i + 1)) by omega]
            refine Ev.step (ih' (n + 1) (by omega) (by omega)) fun k => by
              simp only [cobwebref11_Wind.j1, if_true, if_neg (show ¬ bx > x by omega), wi]
              rw [wrap_id (n := n + 1) (by omega)]
          · rw [if_neg (show ¬ (ax > x ∧ bx ≤ x ∧ 0 < c) from fun h => k3 h.2.2)] at hu
            rw [hu, decide_eq_false (show ¬ c > 0 from k3), show n + ((0 : Int) + 0 + usum x y (es.drop (i + 1))) = n + usum x y (es.drop (i + 1)) by omega]
            exact jf
        · rw [if_neg (show ¬ (ax > x ∧ bx ≤ x ∧ 0 < c) from fun h => k2 h.2.1)] at hu
          simp only [if_neg k2]
          rw [hu, show n + ((0 : Int) + 0 + usum x y (es.drop (i + 1))) = n + usum x y (es.drop (i + 1)) by omega]
          exact jf
      · rw [if_neg (show ¬ (ax > x ∧ bx ≤ x ∧ 0 < c) from fun h => k1 h.1)] at hu
        simp only [if_neg k1]
        have : n + (uE x y e + usum x y (es.drop (i + 1))) = (if bx > x ∧ ax ≤ x ∧ c < 0 then n - 1 else n) + usum x y (es.drop (i + 1)) := by
          rw [hu]; split <;> omega
        rw [this]
        exact jf

theorem any_true_wind (x y : Int) (ls : List (List S23)) (h : rightL ls x y = true) : (windN x y (allE ls), windO x y (allE ls)) = if (allE ls).any (onE x y) = true then ((0 : Int), true) else (usum x y (allE ls), false) := by
  unfold windN windO
  rw [rightL_ok, h]
  cases ha : (allE ls).any (onE x y) with
  | true => simp
  | false =>
    simp only [if_true, Bool.false_eq_true, if_false, Bool.and_false]
    rw [rays_all x y ls h ha]

theorem rwind_f (ls : List (List S23)) (x y : Int) (hl : ls.length ≤ 1000000000000) (hb : (allE ls).length ≤ 1000000000000) (h : rightL ls x y = true) : Ev (fun k => cobwebref11_Wind.f k ls x y) (windN x y (allE ls), windO x y (allE ls)) := by
  rw [any_true_wind x y ls h]
  have h' := h
  unfold rightL at h'
  rw [Bool.and_eq_true] at h'
  obtain ⟨h1, h2⟩ := h'
  have he : ∀ e ∈ allE ls, okP e.1 = true ∧ okP e.2 = true := by
    intro e hm
    obtain ⟨r, hr, her⟩ := List.mem_flatMap.1 hm
    have hall := List.all_eq_true.1 (List.all_eq_true.1 h1 r hr)
    have hf : e.1 ∈ r := by
      have : e.1 ∈ (edgs r).map Prod.fst := List.mem_map.2 ⟨e, her, rfl⟩
      rwa [edgs_fst] at this
    exact ⟨hall _ hf, hall _ (edgs_snd r e her)⟩
  have hw := wind_ev x y (allE ls) h2 he hb (allE ls).length 0 0 (by omega) (by omega) (by omega) (by omega)
  rw [List.drop_zero, Int.zero_add] at hw
  exact Ev.bind (f := fun k t321 => cobwebref11_Wind.l0 k x 0 t321 0 x y) (edges_f ls 0 hl hb) hw
end Go.Proofs.Ytpfgjagpaddcpaa.Own

/-! InputWinds, walked. -/
namespace Go.Proofs.Ytpfgjagpaddcpaa.Own
open Go.RowKit Go.Proofs.YtpfgjagpaddcpaaW.PrintWords Go.Proofs.YtpfgjagpaddcpaaW.PrintLast Go.Proofs.YtpfgjagpaddcpaaW.PrintMore
open Go.Proofs.Ytpfgjagpaddcpaa.X
set_option linter.unusedVariables false
set_option linter.unusedSimpArgs false

theorem allE_sum (ls : List (List S23)) : (allE ls).length = sumL ls := by
  induction ls with
  | nil => rfl
  | cons r rs ih =>
    have e : allE (r :: rs) = edgs r ++ allE rs := rfl
    rw [e, List.length_append, edgs_length, ih]
    simp [sumL]

theorem many1_any (A : Option Addr) (c : Nat) (l : List (List S23)) (w : World) (hA : Kd.C (Kd.slice 23 k23) w A l.length l) (hc : l.length ≤ c) (hl : l.length + sumL l ≤ 1048576) :
    Calls Try.prog 36 #[.agg #[.slice A l.length c, .slice none 0 0, .int .i64 0, .int .i64 0, .int .i64 0, .int .i64 0]] w fun e w' => e = .returned (.int .i64 ((l.length + sumL l : Nat) : Int)) ∧ Below w.heap.size w w' :=
  (many_any A none c 0 l [] 0 0 0 0 w hA hc (C_none w) (Nat.le_refl _) (by simp [sumL] at *; omega)).mono fun e w' ⟨h1, h2⟩ => ⟨by rw [h1]; simp [sumL], h2⟩
theorem wind1_any (A : Option Addr) (c : Nat) (l : List (List S23)) (x y : Int) (w : World) (hA : Kd.C (Kd.slice 23 k23) w A l.length l) (hc : l.length ≤ c) (hl : l.length + sumL l ≤ 1048576) :
    Calls Try.prog 38 #[.slice A l.length c, .int .i64 x, .int .i64 y] w fun e w' => e = .returned (.tuple #[.int .i64 (windN x y (allE l)), .bool (windO x y (allE l))]) ∧ Below w.heap.size w w' :=
  wind_any A c l x y w hA hc (by rw [allE_sum]; omega)
theorem right1_any (A : Option Addr) (c : Nat) (l : List (List S23)) (x y : Int) (w : World) (hA : Kd.C (Kd.slice 23 k23) w A l.length l) (hc : l.length ≤ c) (hl : l.length + sumL l ≤ 1048576) :
    Calls Try.prog 37 #[.slice A l.length c, .int .i64 x, .int .i64 y] w fun e w' => e = .returned (.bool (rightL l x y)) ∧ Below w.heap.size w w' := by
  obtain ⟨k, hk⟩ := (right_f' l x y (by omega) (fun r hr => by have := sumL_mem l r hr; omega)).get
  exact cobweblaw11_right.calls k A c l x y _ w hA hc hk
theorem rwind1_any (A : Option Addr) (c : Nat) (l : List (List S23)) (x y : Int) (w : World) (hA : Kd.C (Kd.slice 23 k23) w A l.length l) (hc : l.length ≤ c) (hl : l.length + sumL l ≤ 1048576) (hr : rightL l x y = true) :
    Calls Try.prog 52 #[.slice A l.length c, .int .i64 x, .int .i64 y] w fun e w' => e = .returned (.tuple #[.int .i64 (windN x y (allE l)), .bool (windO x y (allE l))]) ∧ Below w.heap.size w w' := by
  obtain ⟨k, hk⟩ := (rwind_f l x y (by omega) (by rw [allE_sum]; omega) hr).get
  exact cobwebref11_Wind.calls k A c l x y _ _ w hA hc hk

set_option maxRecDepth 100000 in
set_option maxHeartbeats 8000000 in
theorem inputWinds_walk (w : World) (A : Option Addr) (c : Nat) (l : List (List S23)) (hc : l.length ≤ c) (hA : Kd.C (Kd.slice 23 k23) w A l.length l) (x y : Int) (hl : l.length + sumL l ≤ 1048576) :
    Calls Try.prog 16 #[.slice A l.length c, .int .i64 x, .int .i64 y] w fun e w' => e = .returned (.bool true) ∧ Below w.heap.size w w' := by
  have HA := Aside0.mk hA
  have HC := Aside0.mk hc
  have HL := Aside0.mk hl
  obtain ⟨N, hN⟩ : ∃ N : Int, ((l.length + sumL l : Nat) : Int) = N := ⟨_, rfl⟩
  have HM := Aside0.mk (show ∀ w', Below w.heap.size w w' → Calls Try.prog 36 #[.agg #[.slice A l.length c, .slice none 0 0, .int .i64 0, .int .i64 0, .int .i64 0, .int .i64 0]] w' fun e w'' => e = .returned (.int .i64 N) ∧ Below w'.heap.size w' w'' from
    fun w' hb => hN ▸ many1_any A c l w' (Kd.C_below hA hb) hc hl)
  clear hA hc hl hN
  go_enter Try.func16, Try.ntmps16
  by_cases h1 : 300 < N
  · have d1 : decide (300 < N) = true := decide_eq_true h1
    go_wp2_with (go_at_call 36; (with_reducible refine (HM.out _ (Below.refl _ _)).mono ?_); rintro e w1 ⟨rfl, hb⟩)
    refine (alive11_any _).mono ?_
    rintro e w2 ⟨rfl, hb2⟩
    go_wp2_with fail
    go_ret
    exact ⟨rfl, below_step hb hb2⟩
  · have d1 : decide (300 < N) = false := decide_eq_false h1
    go_wp2_with (go_at_call 36; (with_reducible refine (HM.out _ (Below.refl _ _)).mono ?_); rintro e w1 ⟨rfl, hb⟩; have HB1 := Aside0.mk hb; clear hb)
    refine (wind1_any A c l x y _ (Kd.C_below HA.out HB1.out) HC.out HL.out).mono ?_
    rintro e w2 ⟨rfl, hb2⟩
    have HB2 := Aside0.mk (below_step HB1.out hb2)
    clear hb2
    cases hr : rightL l x y with
    | false =>
      rw [show windN x y (allE l) = 0 from by unfold windN; rw [rightL_ok, hr]; rfl, show windO x y (allE l) = false from by unfold windO; rw [rightL_ok, hr]; rfl]
      go_wp2_with fail
      refine (right1_any A c l x y _ (Kd.C_below HA.out HB2.out) HC.out HL.out).mono ?_
      rintro e w3 ⟨rfl, hb3⟩
      have HB3 := Aside0.mk (below_step HB2.out hb3)
      clear hb3
      rw [hr]
      go_wp2_with fail
      refine (alive11_any _).mono ?_
      rintro e w4 ⟨rfl, hb4⟩
      go_wp2_with fail
      go_ret
      exact ⟨rfl, below_step HB3.out hb4⟩
    | true =>
      have HR := Aside0.mk hr
      obtain ⟨n, hn⟩ : ∃ n, windN x y (allE l) = n := ⟨_, rfl⟩
      obtain ⟨o, ho⟩ : ∃ o, windO x y (allE l) = o := ⟨_, rfl⟩
      have HW := Aside0.mk (And.intro hn ho)
      rw [hn, ho]
      clear hr hn ho
      go_wp2_with fail
      refine (right1_any A c l x y _ (Kd.C_below HA.out HB2.out) HC.out HL.out).mono ?_
      rintro e w3 ⟨rfl, hb3⟩
      have HB3 := Aside0.mk (below_step HB2.out hb3)
      clear hb3
      rw [HR.out]
      go_wp2_with fail
      refine (rwind1_any A c l x y _ (Kd.C_below HA.out HB3.out) HC.out HL.out HR.out).mono ?_
      rintro e w4 ⟨rfl, hb4⟩
      have HB4 := Aside0.mk (below_step HB3.out hb4)
      clear hb4
      rw [HW.out.1, HW.out.2]
      go_wp2_with fail
      refine (alive11_any _).mono ?_
      rintro e w5 ⟨rfl, hb5⟩
      go_wp2_with fail
      go_ret
      exact ⟨rfl, below_step HB4.out hb5⟩
end Go.Proofs.Ytpfgjagpaddcpaa.Own
