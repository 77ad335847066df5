import Derived.Test.YtpfgjagpaddcpaaBa6
/-! Texts that this law leans on, put together by a program of this session: Q2 Q4 G7 G9. -/
/-! Wind by a ray to the right, and by a ray upwards: the same around rings; the reference's edges, right and Wind. -/
namespace Go.Proofs.Ytpfgjagpaddcpaa.Own
open Go.RowKit Go.Proofs.YtpfgjagpaddcpaaW.PrintWords Go.Proofs.YtpfgjagpaddcpaaW.PrintLast Go.Proofs.YtpfgjagpaddcpaaW.PrintMore
open Go.Proofs.Ytpfgjagpaddcpaa.X
set_option linter.unusedVariables false
set_option linter.unusedSimpArgs false

/-- What the ray to the right counts, and the ray upwards; both relative to the place; c: the product. -/
def rW (ax ay bx bY c : Int) : Int := if ay ≤ 0 ∧ ¬ bY ≤ 0 ∧ ¬ c ≤ 0 then 1 else if bY ≤ 0 ∧ ¬ ay ≤ 0 ∧ ¬ 0 ≤ c then -1 else 0
/-- Is a point right, and so twice it. -/
def okP (p : S23) : Bool := rightB p.f0 p.f1 && rightB (2 * p.f0) (2 * p.f1)
theorem okP_tw (p : S23) : rightB (tw p).f0 (tw p).f1 = okP p := by
  unfold tw okP
  cases h : rightB p.f0 p.f1 with
  | true => simp
  | false => simp; decide
theorem tw_of {p : S23} (h : okP p = true) : tw p = ⟨2 * p.f0, 2 * p.f1⟩ := by
  unfold okP at h
  rw [Bool.and_eq_true] at h
  unfold tw
  rw [if_pos h.1]

theorem pth_fst (xs : List S23) : ∀ a b : S23, (pth a (xs ++ [b])).map Prod.fst = a :: xs := by
  induction xs with
  | nil => intro a b; rfl
  | cons c xs ih => intro a b; simp [pth, ih c b]
theorem edgs_fst (l : List S23) : (edgs l).map Prod.fst = l := by
  cases l with
  | nil => rfl
  | cons a r => exact pth_fst r a a
theorem pth_snd (xs : List S23) : ∀ a b : S23, (pth a (xs ++ [b])).map Prod.snd = xs ++ [b] := by
  induction xs with
  | nil => intro a b; rfl
  | cons c xs ih => intro a b; simp [pth, ih c b]
theorem edgs_snd (l : List S23) : ∀ e ∈ edgs l, e.2 ∈ l := by
  cases l with
  | nil => intro e h; cases h
  | cons a r =>
    intro e h
    have h1 : e.2 ∈ (pth a (r ++ [a])).map Prod.snd := List.mem_map.2 ⟨e, h, rfl⟩
    rw [pth_snd] at h1
    simp at h1 ⊢
    rcases h1 with h1 | h1
    · exact Or.inr h1
    · exact Or.inl h1
theorem all_fst (l : List S23) : (edgs l).all okE = l.all okP := by
  conv => rhs; rw [← edgs_fst l, List.all_map]
  congr 1
  funext e
  exact okP_tw e.1

/-- Are all points right, twice, and the place. -/
def rightL (ls : List (List S23)) (x y : Int) : Bool := ls.all (fun r => r.all okP) && rightB x y
theorem rightL_ok (ls : List (List S23)) (x y : Int) : okAll x y (allE ls) = rightL ls x y := by
  unfold okAll rightL allE
  rw [Bool.and_comm]
  congr 1
  induction ls with
  | nil => rfl
  | cons r rs ih => simp only [List.flatMap_cons, List.all_append, List.all_cons, ih, all_fst]

/-! #### the two rays -/
theorem cross_rel (ax ay bx by_ x y : Int) (h1 : rightB ax ay = true) (h2 : rightB bx by_ = true) (h3 : rightB x y = true) : crossB ax ay bx by_ x y = (ax - x) * (by_ - y) - (bx - x) * (ay - y) := by
  unfold crossB
  rw [if_pos ⟨h1, h2, h3⟩]
  grind

theorem sgn_pos (n : Int) : 0 < sgn n ↔ 0 < n := by unfold sgn; split <;> (try split) <;> omega
theorem sgn_neg (n : Int) : sgn n < 0 ↔ n < 0 := by unfold sgn; split <;> (try split) <;> omega
theorem wnE_rel (x y : Int) (e : S23 × S23) : wnE x y e = rW ((tw e.1).f0 - x) ((tw e.1).f1 - y) ((tw e.2).f0 - x) ((tw e.2).f1 - y) (crossB (tw e.1).f0 (tw e.1).f1 (tw e.2).f0 (tw e.2).f1 x y) := by
  unfold wnE upE dnE rW tuE
  simp only [sgn_pos, sgn_neg, decide_eq_true_eq]
  have e1 : ((tw e.1).f1 ≤ y ∧ y < (tw e.2).f1 ∧ 0 < crossB (tw e.1).f0 (tw e.1).f1 (tw e.2).f0 (tw e.2).f1 x y) ↔ ((tw e.1).f1 - y ≤ 0 ∧ ¬ (tw e.2).f1 - y ≤ 0 ∧ ¬ crossB (tw e.1).f0 (tw e.1).f1 (tw e.2).f0 (tw e.2).f1 x y ≤ 0) := by omega
  have e2 : ((tw e.2).f1 ≤ y ∧ y < (tw e.1).f1 ∧ crossB (tw e.1).f0 (tw e.1).f1 (tw e.2).f0 (tw e.2).f1 x y < 0) ↔ ((tw e.2).f1 - y ≤ 0 ∧ ¬ (tw e.1).f1 - y ≤ 0 ∧ ¬ 0 ≤ crossB (tw e.1).f0 (tw e.1).f1 (tw e.2).f0 (tw e.2).f1 x y) := by omega
  simp only [e1, e2]

/-! #### the reference's edges -/
/-! #### right -/
theorem right1_ev (ls : List (List S23)) (x y N : Int) (i : Nat) (hi : i ≤ 1000000000000) (r : List S23) (hr : r.length ≤ 1000000000000) (v : Bool) (hv : Ev (fun k => cobweblaw11_right.l0 k x y ls N ((i + 1 : Nat) : Int)) v) :
    ∀ (m j : Nat), r.length - j = m → j ≤ r.length → Ev (fun k => cobweblaw11_right.l1 k x y ls N i r r.length j) ((r.drop j).all okP && v) := by
  intro m
  induction m with
  | zero =>
    intro j hm hj
    obtain rfl : j = r.length := by omega
    rw [List.drop_length]
    refine Ev.step hv fun k => ?_
    simp only [cobweblaw11_right.l1, if_neg (show ¬ (r.length : Int) < (r.length : Int) by omega)]
    rw [wrap_id (by omega)]
    rfl
  | succ m ih =>
    intro j hm hj
    have hlt : j < r.length := by omega
    have hlt' : (j : Int) < (r.length : Int) := by omega
    rw [getD_drop r z23 j hlt, List.all_cons]
    have hp : rd_T23 r (j : Int) = r.getD j z23 := by simp [rd_T23]
    generalize r.getD j z23 = p at hp ⊢
    have hs : ∀ k, cobweblaw11_right.l1 (k + 1) x y ls N i r r.length j = if rightB p.f0 p.f1 = true then (if rightB (wrap64 (2 * p.f0)) (wrap64 (2 * p.f1)) = true then cobweblaw11_right.l1 k x y ls N i r r.length (wrap64 ((j : Int) + 1)) else some false) else some false := by
      intro k
      simp only [cobweblaw11_right.l1, if_pos hlt', if_pos (show (0 : Int) ≤ (j : Int) by omega), hp, refRight_f, Option.bind_some]
    cases h1 : rightB p.f0 p.f1 with
    | false =>
      refine Ev.step (Ev.const _) fun k => ?_
      rw [hs, h1]
      simp [okP, h1]
    | true =>
      have h1' := (rightB_iff _ _).1 h1
      have w1 : wrap64 (2 * p.f0) = 2 * p.f0 := wrap_id (by omega)
      have w2 : wrap64 (2 * p.f1) = 2 * p.f1 := wrap_id (by omega)
      cases h2 : rightB (2 * p.f0) (2 * p.f1) with
      | false =>
        refine Ev.step (Ev.const _) fun k => ?_
        rw [hs, h1, w1, w2, h2]
        simp [okP, h1, h2]
      | true =>
        have ho : okP p = true := by simp [okP, h1, h2]
        rw [ho, Bool.true_and]
        refine Ev.step (ih (j + 1) (by omega) (by omega)) fun k => ?_
        rw [hs, h1, w1, w2, h2, wrap_id (by omega)]
        rfl

theorem right_ev (ls : List (List S23)) (x y : Int) (hl : ls.length ≤ 1000000000000) (hls : ∀ r ∈ ls, r.length ≤ 1000000000000) : ∀ (m i : Nat), ls.length - i = m → i ≤ ls.length → Ev (fun k => cobweblaw11_right.l0 k x y ls ls.length i) (rightL (ls.drop i) x y) := by
  intro m
  induction m with
  | zero =>
    intro i hm hi
    obtain rfl : i = ls.length := by omega
    rw [List.drop_length]
    refine Ev.step (Ev.const _) fun k => ?_
    simp only [cobweblaw11_right.l0, if_neg (show ¬ (ls.length : Int) < (ls.length : Int) by omega), refRight_f, Option.bind_some]
    simp [rightL]
  | succ m ih =>
    intro i hm hi
    have hlt : i < ls.length := by omega
    have hmem : ls.getD i [] ∈ ls := by
      rw [List.getD_eq_getElem?_getD, List.getElem?_eq_getElem hlt]
      exact List.getElem_mem _
    have hrl := hls _ hmem
    have he : rightL (ls.drop i) x y = ((ls.getD i []).all okP && rightL (ls.drop (i + 1)) x y) := by
      rw [getD_drop ls [] i hlt]
      simp [rightL, Bool.and_assoc]
    rw [he]
    have hr' : rd_L2 ls (i : Int) = ls.getD i [] := by simp [rd_L2]
    generalize ls.getD i [] = r at hr' hrl ⊢
    have h1 := right1_ev ls x y ls.length i (by omega) r hrl _ (ih (i + 1) (by omega) (by omega)) r.length 0 (by omega) (by omega)
    rw [List.drop_zero] at h1
    refine Ev.step h1 fun k => ?_
    simp only [cobweblaw11_right.l0, if_pos (show (i : Int) < (ls.length : Int) by omega), if_pos (show (0 : Int) ≤ (i : Int) by omega), hr']
    rfl

theorem right_f' (ls : List (List S23)) (x y : Int) (hl : ls.length ≤ 1000000000000) (hls : ∀ r ∈ ls, r.length ≤ 1000000000000) : Ev (fun k => cobweblaw11_right.f k ls x y) (rightL ls x y) := by
  have := right_ev ls x y hl hls ls.length 0 (by omega) (by omega)
  exact this.congr fun k => rfl

/-! #### the reference's Wind -/
end Go.Proofs.Ytpfgjagpaddcpaa.Own

/-! Rings, and a place, moved alike. -/
namespace Go.Proofs.Ytpfgjagpaddcpaa.Own
open Go.RowKit Go.Proofs.YtpfgjagpaddcpaaW.PrintWords Go.Proofs.YtpfgjagpaddcpaaW.PrintLast Go.Proofs.YtpfgjagpaddcpaaW.PrintMore
open Go.Proofs.Ytpfgjagpaddcpaa.X
set_option linter.unusedVariables false
set_option linter.unusedSimpArgs false

/-- A point, moved. -/
def mvP (bx by_ : Int) (p : S23) : S23 := ⟨p.f0 + bx, p.f1 + by_⟩
def mvR (bx by_ : Int) (r : List S23) : List S23 := r.map (mvP bx by_)
def mvL (bx by_ : Int) (l : List (List S23)) : List (List S23) := l.map (mvR bx by_)
def mvE (bx by_ : Int) (e : S23 × S23) : S23 × S23 := (mvP bx by_ e.1, mvP bx by_ e.2)

theorem pth_map (bx by_ : Int) (xs : List S23) : ∀ a : S23, pth (mvP bx by_ a) (xs.map (mvP bx by_)) = (pth a xs).map (mvE bx by_) := by
  induction xs with
  | nil => intro a; rfl
  | cons c xs ih => intro a; simp [pth, ih c, mvE]
theorem edgs_map (bx by_ : Int) (r : List S23) : edgs (mvR bx by_ r) = (edgs r).map (mvE bx by_) := by
  cases r with
  | nil => rfl
  | cons a r =>
    have := pth_map bx by_ (r ++ [a]) a
    rw [List.map_append] at this
    exact this
theorem allE_map (bx by_ : Int) (l : List (List S23)) : allE (mvL bx by_ l) = (allE l).map (mvE bx by_) := by
  induction l with
  | nil => rfl
  | cons r rs ih =>
    have e1 : allE (mvL bx by_ (r :: rs)) = edgs (mvR bx by_ r) ++ allE (mvL bx by_ rs) := rfl
    have e2 : allE (r :: rs) = edgs r ++ allE rs := rfl
    rw [e1, e2, ih, edgs_map, List.map_append]

theorem tw_mv {bx by_ : Int} {p : S23} (h1 : okP p = true) (h2 : okP (mvP bx by_ p) = true) : tw (mvP bx by_ p) = ⟨(tw p).f0 + 2 * bx, (tw p).f1 + 2 * by_⟩ := by
  rw [tw_of h2, tw_of h1]
  unfold mvP
  congr 1
  · show 2 * (p.f0 + bx) = 2 * p.f0 + 2 * bx; omega
  · show 2 * (p.f1 + by_) = 2 * p.f1 + 2 * by_; omega

theorem edge_mv (bx by_ x y : Int) (e : S23 × S23) (h1 : okP e.1 = true) (h2 : okP e.2 = true) (k1 : okP (mvP bx by_ e.1) = true) (k2 : okP (mvP bx by_ e.2) = true) (h3 : rightB x y = true) (k3 : rightB (x + 2 * bx) (y + 2 * by_) = true) :
    wnE (x + 2 * bx) (y + 2 * by_) (mvE bx by_ e) = wnE x y e ∧ onE (x + 2 * bx) (y + 2 * by_) (mvE bx by_ e) = onE x y e := by
  have g1 := (okP_tw e.1).trans h1
  have g2 := (okP_tw e.2).trans h2
  have j1 := (okP_tw (mvP bx by_ e.1)).trans k1
  have j2 := (okP_tw (mvP bx by_ e.2)).trans k2
  have t1 := tw_mv h1 k1
  have t2 := tw_mv h2 k2
  have c1 := cross_rel _ _ _ _ _ _ g1 g2 h3
  have c2 := cross_rel _ _ _ _ _ _ j1 j2 k3
  have m1 : (mvE bx by_ e).1 = mvP bx by_ e.1 := rfl
  have m2 : (mvE bx by_ e).2 = mvP bx by_ e.2 := rfl
  rw [t1, t2] at c2
  simp only at c2
  rw [show (tw e.1).f0 + 2 * bx - (x + 2 * bx) = (tw e.1).f0 - x by omega, show (tw e.2).f1 + 2 * by_ - (y + 2 * by_) = (tw e.2).f1 - y by omega, show (tw e.2).f0 + 2 * bx - (x + 2 * bx) = (tw e.2).f0 - x by omega, show (tw e.1).f1 + 2 * by_ - (y + 2 * by_) = (tw e.1).f1 - y by omega, ← c1] at c2
  constructor
  · rw [wnE_rel, wnE_rel, m1, m2, t1, t2]
    simp only
    rw [c2, show (tw e.1).f0 + 2 * bx - (x + 2 * bx) = (tw e.1).f0 - x by omega, show (tw e.2).f1 + 2 * by_ - (y + 2 * by_) = (tw e.2).f1 - y by omega, show (tw e.2).f0 + 2 * bx - (x + 2 * bx) = (tw e.2).f0 - x by omega, show (tw e.1).f1 + 2 * by_ - (y + 2 * by_) = (tw e.1).f1 - y by omega]
  · unfold onE
    rw [m1, m2]
    unfold onB
    rw [h3, k3, g1, g2, j1, j2]
    simp only [Bool.true_and]
    rw [t1, t2]
    simp only
    rw [c2]
    congr 1
    unfold holdsB mn mx
    rw [decide_eq_decide]
    split <;> split <;> split <;> split <;> split <;> split <;> split <;> split <;> omega

theorem wind_mv (bx by_ x y : Int) (l : List (List S23)) (h : rightL l x y = true) (k : rightL (mvL bx by_ l) (x + 2 * bx) (y + 2 * by_) = true) :
    windN (x + 2 * bx) (y + 2 * by_) (allE (mvL bx by_ l)) = windN x y (allE l) ∧ windO (x + 2 * bx) (y + 2 * by_) (allE (mvL bx by_ l)) = windO x y (allE l) := by
  have o1 : okAll x y (allE l) = true := by rw [rightL_ok]; exact h
  have o2 : okAll (x + 2 * bx) (y + 2 * by_) (allE (mvL bx by_ l)) = true := by rw [rightL_ok]; exact k
  unfold rightL at h k
  rw [Bool.and_eq_true] at h k
  have he : ∀ e ∈ allE l, wnE (x + 2 * bx) (y + 2 * by_) (mvE bx by_ e) = wnE x y e ∧ onE (x + 2 * bx) (y + 2 * by_) (mvE bx by_ e) = onE x y e := by
    intro e hm
    obtain ⟨r, hr, her⟩ := List.mem_flatMap.1 hm
    have hall := List.all_eq_true.1 (List.all_eq_true.1 h.1 r hr)
    have hall2 := List.all_eq_true.1 (List.all_eq_true.1 k.1 (mvR bx by_ r) (List.mem_map.2 ⟨r, hr, rfl⟩))
    have hf : e.1 ∈ r := by
      have : e.1 ∈ (edgs r).map Prod.fst := List.mem_map.2 ⟨e, her, rfl⟩
      rwa [edgs_fst] at this
    have hs := edgs_snd r e her
    exact edge_mv bx by_ x y e (hall _ hf) (hall _ hs) (hall2 _ (List.mem_map.2 ⟨_, hf, rfl⟩)) (hall2 _ (List.mem_map.2 ⟨_, hs, rfl⟩)) h.2 k.2
  have ha : (allE (mvL bx by_ l)).any (onE (x + 2 * bx) (y + 2 * by_)) = (allE l).any (onE x y) := by
    rw [allE_map, List.any_map]
    rw [Bool.eq_iff_iff, List.any_eq_true, List.any_eq_true]
    constructor
    · rintro ⟨e, hm, hp⟩; exact ⟨e, hm, by rw [← (he e hm).2]; exact hp⟩
    · rintro ⟨e, hm, hp⟩; exact ⟨e, hm, by rw [← (he e hm).2] at hp; exact hp⟩
  have hw : wsum (x + 2 * bx) (y + 2 * by_) (allE (mvL bx by_ l)) = wsum x y (allE l) := by
    rw [allE_map]
    unfold wsum
    rw [List.map_map]
    congr 1
    exact List.map_congr_left fun e hm => (he e hm).1
  unfold windN windO
  rw [o1, o2, ha, hw]
  exact ⟨rfl, rfl⟩
theorem sumL_mv (bx by_ : Int) (l : List (List S23)) : sumL (mvL bx by_ l) = sumL l := by
  induction l with
  | nil => rfl
  | cons r rs ih =>
    have e1 : sumL (mvL bx by_ (r :: rs)) = (mvR bx by_ r).length + sumL (mvL bx by_ rs) := by simp [sumL, mvL]
    have e2 : sumL (r :: rs) = r.length + sumL rs := by simp [sumL]
    rw [e1, e2, ih]
    simp [mvR]
end Go.Proofs.Ytpfgjagpaddcpaa.Own

/-! InputWinds, walked. -/
namespace Go.Proofs.Ytpfgjagpaddcpaa.Own
open Go.RowKit Go.Proofs.YtpfgjagpaddcpaaW.PrintWords Go.Proofs.YtpfgjagpaddcpaaW.PrintLast Go.Proofs.YtpfgjagpaddcpaaW.PrintMore
open Go.Proofs.Ytpfgjagpaddcpaa.X
set_option linter.unusedVariables false
set_option linter.unusedSimpArgs false

theorem allE_sum (ls : List (List S23)) : (allE ls).length = sumL ls := by
  induction ls with
  | nil => rfl
  | cons r rs ih =>
    have e : allE (r :: rs) = edgs r ++ allE rs := rfl
    rw [e, List.length_append, edgs_length, ih]
    simp [sumL]

theorem many1_any (A : Option Addr) (c : Nat) (l : List (List S23)) (w : World) (hA : Kd.C (Kd.slice 23 k23) w A l.length l) (hc : l.length ≤ c) (hl : l.length + sumL l ≤ 1048576) :
    Calls Try.prog 36 #[.agg #[.slice A l.length c, .slice none 0 0, .int .i64 0, .int .i64 0, .int .i64 0, .int .i64 0]] w fun e w' => e = .returned (.int .i64 ((l.length + sumL l : Nat) : Int)) ∧ Below w.heap.size w w' :=
  (many_any A none c 0 l [] 0 0 0 0 w hA hc (C_none w) (Nat.le_refl _) (by simp [sumL] at *; omega)).mono fun e w' ⟨h1, h2⟩ => ⟨by rw [h1]; simp [sumL], h2⟩
theorem wind1_any (A : Option Addr) (c : Nat) (l : List (List S23)) (x y : Int) (w : World) (hA : Kd.C (Kd.slice 23 k23) w A l.length l) (hc : l.length ≤ c) (hl : l.length + sumL l ≤ 1048576) :
    Calls Try.prog 38 #[.slice A l.length c, .int .i64 x, .int .i64 y] w fun e w' => e = .returned (.tuple #[.int .i64 (windN x y (allE l)), .bool (windO x y (allE l))]) ∧ Below w.heap.size w w' :=
  wind_any A c l x y w hA hc (by rw [allE_sum]; omega)
theorem right1_any (A : Option Addr) (c : Nat) (l : List (List S23)) (x y : Int) (w : World) (hA : Kd.C (Kd.slice 23 k23) w A l.length l) (hc : l.length ≤ c) (hl : l.length + sumL l ≤ 1048576) :
    Calls Try.prog 37 #[.slice A l.length c, .int .i64 x, .int .i64 y] w fun e w' => e = .returned (.bool (rightL l x y)) ∧ Below w.heap.size w w' := by
  obtain ⟨k, hk⟩ := (right_f' l x y (by omega) (fun r hr => by have := sumL_mem l r hr; omega)).get
  exact cobweblaw11_right.calls k A c l x y _ w hA hc hk
end Go.Proofs.Ytpfgjagpaddcpaa.Own

/-! InputMoved, walked. -/
namespace Go.Proofs.Ytpfgjagpaddcpaa.Own
open Go.RowKit Go.Proofs.YtpfgjagpaddcpaaW.PrintWords Go.Proofs.YtpfgjagpaddcpaaW.PrintLast Go.Proofs.YtpfgjagpaddcpaaW.PrintMore
open Go.Proofs.Ytpfgjagpaddcpaa.X
set_option linter.unusedVariables false
set_option linter.unusedSimpArgs false

theorem info23m : (Try.prog.info? 23).map (fun i => (i.zero, i.size, i.bytes)) = some (some (.agg #[(.int .i64 0), (.int .i64 0)]), 2, 16) := by kernel_rfl

theorem rightL_mem {ls : List (List S23)} {x y : Int} (h : rightL ls x y = true) {r : List S23} (hr : r ∈ ls) {p : S23} (hp : p ∈ r) : rightB p.f0 p.f1 = true := by
  unfold rightL at h
  rw [Bool.and_eq_true] at h
  have := List.all_eq_true.1 (List.all_eq_true.1 h.1 r hr) p hp
  unfold okP at this
  rw [Bool.and_eq_true] at this
  exact this.1
theorem rightL_at {ls : List (List S23)} {x y : Int} (h : rightL ls x y = true) : rightB x y = true := by
  unfold rightL at h
  rw [Bool.and_eq_true] at h
  exact h.2
theorem mvL_take (bx by_ : Int) (l : List (List S23)) (k : Nat) (h : k < l.length) : mvL bx by_ (l.take (k + 1)) = mvL bx by_ (l.take k) ++ [mvR bx by_ (l.getD k [])] := by
  unfold mvL
  rw [List.take_add_one, List.map_append, List.getD_eq_getElem?_getD, List.getElem?_eq_getElem h]
  rfl
theorem mvR_take (bx by_ : Int) (r : List S23) (k : Nat) (h : k < r.length) : mvR bx by_ (r.take (k + 1)) = mvR bx by_ (r.take k) ++ [mvP bx by_ (r.getD k z23)] := by
  unfold mvR
  rw [List.take_add_one, List.map_append, List.getD_eq_getElem?_getD, List.getElem?_eq_getElem h]
  rfl

set_option maxHeartbeats 8000000 in
set_option maxRecDepth 100000 in
theorem moved_out
    (w : World) (A : Option Addr) (c : Nat) (l : List (List S23)) (hc : l.length ≤ c) (hA : Kd.C (Kd.slice 23 k23) w A l.length l) (x y bx bY : Int) (hl : l.length + sumL l ≤ 1048576) (h : 200 < l.length + sumL l ∨ (l.length + sumL l ≤ 200 ∧ (134217728 < bx ∨ (bx ≤ 134217728 ∧ (bx < -134217728 ∨ (-134217728 ≤ bx ∧ (134217728 < bY ∨ (bY ≤ 134217728 ∧ bY < -134217728)))))))) :
    Calls Try.prog 7 #[.slice A l.length c, .agg #[.int .i64 x, .int .i64 y], .agg #[.int .i64 bx, .int .i64 bY]] w fun e w' => e = .returned (.bool true) ∧ Below w.heap.size w w' := by
  have hu43 := Try.underlying43
  have hu23 := Try.underlying23
  have HA := Aside0.mk hA
  have HC := Aside0.mk hc
  have HL := Aside0.mk hl
  obtain ⟨N, hN⟩ : ∃ N : Int, ((l.length + sumL l : Nat) : Int) = N := ⟨_, rfl⟩
  have HM := Aside0.mk (show ∀ w', Below w.heap.size w w' → Calls Try.prog 36 #[.agg #[.slice A l.length c, .slice none 0 0, .int .i64 0, .int .i64 0, .int .i64 0, .int .i64 0]] w' fun e w'' => e = .returned (.int .i64 N) ∧ Below w'.heap.size w' w'' from
    fun w' hb => hN ▸ many1_any A c l w' (Kd.C_below hA hb) hc hl)
  have HN := Aside0.mk hN
  clear hA hc hl hN
  have hN := HN.out
  rcases h with h | ⟨h1, h | ⟨h2, h | ⟨h3, h | ⟨h4, h⟩⟩⟩⟩
  · have d1 : decide (200 < N) = true := decide_eq_true (by omega)
    clear h hN
    go_enter Try.func7, Try.ntmps7
    have hk4 := blk_new w (.cells #[.int .i64 x, .int .i64 y] 43)
    have hk5 := blk_new (w.alloc (.cells #[.int .i64 x, .int .i64 y] 43)) (.cells #[.int .i64 bx, .int .i64 bY] 23)
    have hk4' := blk_alloc hk4 (.cells #[.int .i64 bx, .int .i64 bY] 23)
    have HW0 := Aside0.mk (below_alloc (below_alloc (Below.refl w.heap.size w) (.cells #[.int .i64 x, .int .i64 y] 43)) (.cells #[.int .i64 bx, .int .i64 bY] 23))
    rw [World.size_alloc] at hk5
    have K4 := Aside0.mk hk4'
    have K5 := Aside0.mk hk5
    clear hk4 hk5 hk4'
    go_wp2_with (go_at_call 36; (with_reducible refine (HM.out _ HW0.out).mono ?_); rintro e w1 ⟨rfl, hb⟩; have HB := Aside0.mk (below_step HW0.out hb); have k4 := blk_below K4.out hb; have k5 := blk_below K5.out hb; have c0 := cell0 0 k4 rfl; have c1 := cell0 1 k4 rfl; have c2 := cell0 0 k5 rfl; have c3 := cell0 1 k5 rfl)
    refine (alive11_any _).mono ?_
    rintro e w2 ⟨rfl, hb2⟩
    go_wp2_with fail
    go_ret
    exact ⟨rfl, below_step HB.out hb2⟩
  · have d1 : decide (200 < N) = false := decide_eq_false (by omega)
    have d2 : decide (134217728 < bx) = true := decide_eq_true (by omega)
    clear h hN h1
    go_enter Try.func7, Try.ntmps7
    have hk4 := blk_new w (.cells #[.int .i64 x, .int .i64 y] 43)
    have hk5 := blk_new (w.alloc (.cells #[.int .i64 x, .int .i64 y] 43)) (.cells #[.int .i64 bx, .int .i64 bY] 23)
    have hk4' := blk_alloc hk4 (.cells #[.int .i64 bx, .int .i64 bY] 23)
    have HW0 := Aside0.mk (below_alloc (below_alloc (Below.refl w.heap.size w) (.cells #[.int .i64 x, .int .i64 y] 43)) (.cells #[.int .i64 bx, .int .i64 bY] 23))
    rw [World.size_alloc] at hk5
    have K4 := Aside0.mk hk4'
    have K5 := Aside0.mk hk5
    clear hk4 hk5 hk4'
    go_wp2_with (go_at_call 36; (with_reducible refine (HM.out _ HW0.out).mono ?_); rintro e w1 ⟨rfl, hb⟩; have HB := Aside0.mk (below_step HW0.out hb); have k4 := blk_below K4.out hb; have k5 := blk_below K5.out hb; have c0 := cell0 0 k4 rfl; have c1 := cell0 1 k4 rfl; have c2 := cell0 0 k5 rfl; have c3 := cell0 1 k5 rfl)
    refine (alive11_any _).mono ?_
    rintro e w2 ⟨rfl, hb2⟩
    go_wp2_with fail
    go_ret
    exact ⟨rfl, below_step HB.out hb2⟩
  · have d1 : decide (200 < N) = false := decide_eq_false (by omega)
    have d2 : decide (134217728 < bx) = false := decide_eq_false (by omega)
    have d3 : decide (bx < -134217728) = true := decide_eq_true (by omega)
    clear h hN h1 h2
    go_enter Try.func7, Try.ntmps7
    have hk4 := blk_new w (.cells #[.int .i64 x, .int .i64 y] 43)
    have hk5 := blk_new (w.alloc (.cells #[.int .i64 x, .int .i64 y] 43)) (.cells #[.int .i64 bx, .int .i64 bY] 23)
    have hk4' := blk_alloc hk4 (.cells #[.int .i64 bx, .int .i64 bY] 23)
    have HW0 := Aside0.mk (below_alloc (below_alloc (Below.refl w.heap.size w) (.cells #[.int .i64 x, .int .i64 y] 43)) (.cells #[.int .i64 bx, .int .i64 bY] 23))
    rw [World.size_alloc] at hk5
    have K4 := Aside0.mk hk4'
    have K5 := Aside0.mk hk5
    clear hk4 hk5 hk4'
    go_wp2_with (go_at_call 36; (with_reducible refine (HM.out _ HW0.out).mono ?_); rintro e w1 ⟨rfl, hb⟩; have HB := Aside0.mk (below_step HW0.out hb); have k4 := blk_below K4.out hb; have k5 := blk_below K5.out hb; have c0 := cell0 0 k4 rfl; have c1 := cell0 1 k4 rfl; have c2 := cell0 0 k5 rfl; have c3 := cell0 1 k5 rfl)
    refine (alive11_any _).mono ?_
    rintro e w2 ⟨rfl, hb2⟩
    go_wp2_with fail
    go_ret
    exact ⟨rfl, below_step HB.out hb2⟩
  · have d1 : decide (200 < N) = false := decide_eq_false (by omega)
    have d2 : decide (134217728 < bx) = false := decide_eq_false (by omega)
    have d3 : decide (bx < -134217728) = false := decide_eq_false (by omega)
    have d4 : decide (134217728 < bY) = true := decide_eq_true (by omega)
    clear h hN h1 h2 h3
    go_enter Try.func7, Try.ntmps7
    have hk4 := blk_new w (.cells #[.int .i64 x, .int .i64 y] 43)
    have hk5 := blk_new (w.alloc (.cells #[.int .i64 x, .int .i64 y] 43)) (.cells #[.int .i64 bx, .int .i64 bY] 23)
    have hk4' := blk_alloc hk4 (.cells #[.int .i64 bx, .int .i64 bY] 23)
    have HW0 := Aside0.mk (below_alloc (below_alloc (Below.refl w.heap.size w) (.cells #[.int .i64 x, .int .i64 y] 43)) (.cells #[.int .i64 bx, .int .i64 bY] 23))
    rw [World.size_alloc] at hk5
    have K4 := Aside0.mk hk4'
    have K5 := Aside0.mk hk5
    clear hk4 hk5 hk4'
    go_wp2_with (go_at_call 36; (with_reducible refine (HM.out _ HW0.out).mono ?_); rintro e w1 ⟨rfl, hb⟩; have HB := Aside0.mk (below_step HW0.out hb); have k4 := blk_below K4.out hb; have k5 := blk_below K5.out hb; have c0 := cell0 0 k4 rfl; have c1 := cell0 1 k4 rfl; have c2 := cell0 0 k5 rfl; have c3 := cell0 1 k5 rfl)
    refine (alive11_any _).mono ?_
    rintro e w2 ⟨rfl, hb2⟩
    go_wp2_with fail
    go_ret
    exact ⟨rfl, below_step HB.out hb2⟩
  · have d1 : decide (200 < N) = false := decide_eq_false (by omega)
    have d2 : decide (134217728 < bx) = false := decide_eq_false (by omega)
    have d3 : decide (bx < -134217728) = false := decide_eq_false (by omega)
    have d4 : decide (134217728 < bY) = false := decide_eq_false (by omega)
    have d5 : decide (bY < -134217728) = true := decide_eq_true (by omega)
    clear h hN h1 h2 h3 h4
    go_enter Try.func7, Try.ntmps7
    have hk4 := blk_new w (.cells #[.int .i64 x, .int .i64 y] 43)
    have hk5 := blk_new (w.alloc (.cells #[.int .i64 x, .int .i64 y] 43)) (.cells #[.int .i64 bx, .int .i64 bY] 23)
    have hk4' := blk_alloc hk4 (.cells #[.int .i64 bx, .int .i64 bY] 23)
    have HW0 := Aside0.mk (below_alloc (below_alloc (Below.refl w.heap.size w) (.cells #[.int .i64 x, .int .i64 y] 43)) (.cells #[.int .i64 bx, .int .i64 bY] 23))
    rw [World.size_alloc] at hk5
    have K4 := Aside0.mk hk4'
    have K5 := Aside0.mk hk5
    clear hk4 hk5 hk4'
    go_wp2_with (go_at_call 36; (with_reducible refine (HM.out _ HW0.out).mono ?_); rintro e w1 ⟨rfl, hb⟩; have HB := Aside0.mk (below_step HW0.out hb); have k4 := blk_below K4.out hb; have k5 := blk_below K5.out hb; have c0 := cell0 0 k4 rfl; have c1 := cell0 1 k4 rfl; have c2 := cell0 0 k5 rfl; have c3 := cell0 1 k5 rfl)
    refine (alive11_any _).mono ?_
    rintro e w2 ⟨rfl, hb2⟩
    go_wp2_with fail
    go_ret
    exact ⟨rfl, below_step HB.out hb2⟩

set_option maxHeartbeats 16000000 in
set_option maxRecDepth 100000 in
theorem moved_in
    (w : World) (A : Option Addr) (c : Nat) (l : List (List S23)) (hc : l.length ≤ c) (hA : Kd.C (Kd.slice 23 k23) w A l.length l) (x y bx bY : Int) (hl : l.length + sumL l ≤ 1048576) (h1 : l.length + sumL l ≤ 200) (b1 : -134217728 ≤ bx) (b2 : bx ≤ 134217728) (b3 : -134217728 ≤ bY) (b4 : bY ≤ 134217728) :
    Calls Try.prog 7 #[.slice A l.length c, .agg #[.int .i64 x, .int .i64 y], .agg #[.int .i64 bx, .int .i64 bY]] w fun e w' => e = .returned (.bool true) ∧ Below w.heap.size w w' := by
  have hu43 := Try.underlying43
  have hu23 := Try.underlying23
  have HA := Aside0.mk hA
  have HC := Aside0.mk hc
  have HL := Aside0.mk hl
  obtain ⟨N, hN⟩ : ∃ N : Int, ((l.length + sumL l : Nat) : Int) = N := ⟨_, rfl⟩
  have HM := Aside0.mk (show ∀ w', Below w.heap.size w w' → Calls Try.prog 36 #[.agg #[.slice A l.length c, .slice none 0 0, .int .i64 0, .int .i64 0, .int .i64 0, .int .i64 0]] w' fun e w'' => e = .returned (.int .i64 N) ∧ Below w'.heap.size w' w'' from
    fun w' hb => hN ▸ many1_any A c l w' (Kd.C_below hA hb) hc hl)
  have HN := Aside0.mk hN
  clear hA hc hl hN
  have hN := HN.out
  have d1 : decide (200 < N) = false := decide_eq_false (by omega)
  have d2 : decide (134217728 < bx) = false := decide_eq_false (by omega)
  have d3 : decide (bx < -134217728) = false := decide_eq_false (by omega)
  have d4 : decide (134217728 < bY) = false := decide_eq_false (by omega)
  have d5 : decide (bY < -134217728) = false := decide_eq_false (by omega)
  have H1 := Aside0.mk h1
  clear hN h1
  go_enter Try.func7, Try.ntmps7
  have hk4 := blk_new w (.cells #[.int .i64 x, .int .i64 y] 43)
  have hk5 := blk_new (w.alloc (.cells #[.int .i64 x, .int .i64 y] 43)) (.cells #[.int .i64 bx, .int .i64 bY] 23)
  have hk4' := blk_alloc hk4 (.cells #[.int .i64 bx, .int .i64 bY] 23)
  have HW0 := Aside0.mk (below_alloc (below_alloc (Below.refl w.heap.size w) (.cells #[.int .i64 x, .int .i64 y] 43)) (.cells #[.int .i64 bx, .int .i64 bY] 23))
  rw [World.size_alloc] at hk5
  have K4 := Aside0.mk hk4'
  have K5 := Aside0.mk hk5
  clear hk4 hk5 hk4'
  go_wp2_with (go_at_call 36; (with_reducible refine (HM.out _ HW0.out).mono ?_); rintro e w1 ⟨rfl, hb⟩; have HB := Aside0.mk (below_step HW0.out hb); have k4 := blk_below K4.out hb; have k5 := blk_below K5.out hb; have c0 := cell0 0 k4 rfl; have c1 := cell0 1 k4 rfl; have c2 := cell0 0 k5 rfl; have c3 := cell0 1 k5 rfl)
  clear c0 c1 c2 c3 HW0 K4 K5 HM d1 d2 d3 d4 d5 hb
  have K4 := Aside0.mk k4
  have K5 := Aside0.mk k5
  clear k4 k5
  refine (right1_any A c l x y _ (Kd.C_below HA.out HB.out) HC.out HL.out).mono ?_
  rintro e w2 ⟨rfl, hb2⟩
  replace HB := Aside0.mk (below_step HB.out hb2)
  replace K4 := Aside0.mk (blk_below K4.out hb2)
  replace K5 := Aside0.mk (blk_below K5.out hb2)
  clear hb2
  cases hr : rightL l x y with
  | false =>
    go_wp2_with fail
    refine (alive11_any _).mono ?_
    rintro e w3 ⟨rfl, hb3⟩
    go_wp2_with fail
    go_ret
    exact ⟨rfl, below_step HB.out hb3⟩
  | true =>
    have HR := Aside0.mk hr
    clear hr
    go_wp2_with fail
    have HRm := Aside0.mk (show ∀ r ∈ l, ∀ p ∈ r, rightB p.f0 p.f1 = true from fun r hr p hp => rightL_mem HR.out hr hp)
    go_loopw [7, 54] (fun v i wr => ∃ k : Nat, i = .int .i64 k ∧ Aside0 (k ≤ l.length) ∧ Aside0 (Kd.R (Kd.slice 23 k23) 47 wr w2.heap.size (fun _ => True) v (mvL bx bY (l.take k))) ∧ Aside0 (Below w2.heap.size w2 wr)) (fun _ i _ => l.length - (intOf i).toNat)
    case atStart => exact ⟨0, rfl, ⟨Nat.zero_le _⟩, ⟨Kd.R_nil _ _ _ _ _⟩, ⟨Below.refl _ _⟩⟩
    case round =>
      obtain ⟨k, rfl, Hk, HO, HBr⟩ := hrel
      have hk := Hk.out
      have HBw := Aside0.mk (below_step HB.out HBr.out)
      have hlb : (l.length : Int) ≤ 200 := by have := H1.out; omega
      by_cases hlt : k < l.length
      · have hlt' : (k : Int) < (l.length : Int) := by omega
        have d0 : decide ((k : Int) < (l.length : Int)) = true := decide_eq_true hlt'
        obtain ⟨ad, A0, c0, e1, hx0, hc0, hC0⟩ := at_L2 HA.out (k : Int) (by omega) hlt'
        cases e1
        simp only [Int.toNat_natCast] at hx0
        replace hx0 := cell_on HBw.out hx0
        have q0 : (0 : Int) ≤ (k : Int) := by omega
        have hmem : rd_L2 l (k : Int) ∈ l := by
          unfold rd_L2
          rw [List.getD_eq_getElem?_getD, Int.toNat_natCast, List.getElem?_eq_getElem hlt]
          exact List.getElem_mem _
        have hrl : (rd_L2 l (k : Int)).length ≤ 200 := by have h2 := sumL_mem l _ hmem; have := H1.out; omega
        have HT := Aside0.mk (show mvL bx bY (l.take (k + 1)) = mvL bx bY (l.take k) ++ [mvR bx bY (rd_L2 l (k : Int))] from mvL_take bx bY l k hlt)
        have HRr := Aside0.mk (HRm.out _ hmem)
        obtain ⟨r, hr⟩ : ∃ r, rd_L2 l (k : Int) = r := ⟨_, rfl⟩
        rw [hr] at hx0 hc0 hC0 hrl HT HRr
        have HC0 := Aside0.mk (Kd.C_below hC0 HBw.out)
        have HRL := Aside0.mk hrl
        clear hC0 hr hmem hrl
        have hlen : (mvL bx bY (l.take k)).length = k := by simp [mvL]; omega
        obtain ⟨Av, cv, hv⟩ := Kd.R_slice HO.out
        rw [hlen] at hv
        subst hv
        have HLEN := Aside0.mk hlen
        have y2 := cell_on HBr.out (cell0 0 K5.out rfl); have y3 := cell_on HBr.out (cell0 1 K5.out rfl)
        have HY2 := Aside0.mk y2; have HY3 := Aside0.mk y3
        clear hlen y2 y3
        go_wp2_with fail
        obtain ⟨wo, hwo⟩ : ∃ wo : World, wo = wr := ⟨_, rfl⟩
        rw [← hwo] at HO HBr HBw HC0 HY2 HY3 ⊢
        clear hwo hx0
        clear wr
        go_loopw [10, 60] (fun v i wq => ∃ j : Nat, i = .int .i64 j ∧ Aside0 (j ≤ r.length) ∧ Aside0 (Kd.R k23 23 wq wo.heap.size (fun _ => True) v (mvR bx bY (r.take j))) ∧ Aside0 (Below wo.heap.size wo wq)) (fun _ i _ => r.length - (intOf i).toNat)
        case atStart => exact ⟨0, rfl, ⟨Nat.zero_le _⟩, ⟨Kd.R_nil _ _ _ _ _⟩, ⟨Below.refl _ _⟩⟩
        case round =>
          obtain ⟨j, rfl, Hj, HO1, HB1⟩ := hrel
          have hj := Hj.out
          have hrb : (r.length : Int) ≤ 200 := by have := HRL.out; omega
          by_cases hjt : j < r.length
          · have hjt' : (j : Int) < (r.length : Int) := by omega
            have d1 : decide ((j : Int) < (r.length : Int)) = true := decide_eq_true hjt'
            obtain ⟨ad', e1, z0, z1⟩ := at_T23 (Kd.C_below HC0.out HB1.out) (j : Int) (by omega) hjt'
            cases e1
            simp only [Int.toNat_natCast] at z0 z1
            have q1 : (0 : Int) ≤ (j : Int) := by omega
            have hpm : rd_T23 r (j : Int) ∈ r := by
              unfold rd_T23
              rw [List.getD_eq_getElem?_getD, Int.toNat_natCast, List.getElem?_eq_getElem hjt]
              exact List.getElem_mem _
            have hpr := (rightB_iff _ _).1 (HRr.out _ hpm)
            have HP := Aside0.mk (show mvR bx bY (r.take (j + 1)) = mvR bx bY (r.take j) ++ [mvP bx bY (rd_T23 r (j : Int))] from mvR_take bx bY r j hjt)
            generalize rd_T23 r (j : Int) = p at z0 z1 hpr HP
            clear hpm
            obtain ⟨p1, p2, p3, p4⟩ := hpr
            go_upto_region 13 with (fail)
            have y2 := cell_on (below_alloc HB1.out (.cells #[.int .i64 p.f0, .int .i64 p.f1] 23)) HY2.out
            have y3 := cell_on (below_alloc HB1.out (.cells #[.int .i64 p.f0, .int .i64 p.f1] 23)) HY3.out
            have HO2 := Aside0.mk (Kd.R_below HO1.out (below_alloc (Below.refl _ wr) (.cells #[.int .i64 p.f0, .int .i64 p.f1] 23)))
            have HB2 := Aside0.mk (below_alloc HB1.out (.cells #[.int .i64 p.f0, .int .i64 p.f1] 23))
            have kb := blk_new wr (.cells #[.int .i64 p.f0, .int .i64 p.f1] 23)
            obtain ⟨gb, hgb⟩ : ∃ gb, wr.heap.size = gb := ⟨_, rfl⟩
            rw [hgb] at kb ⊢
            generalize wr.alloc (.cells #[.int .i64 p.f0, .int .i64 p.f1] 23) = W1 at kb HO2 HB2 y2 y3 ⊢
            have v0 := cell0 0 kb rfl; have v1 := cell0 1 kb rfl
            clear hgb kb z0 z1
            have hbs := Aside0.mk (below_size HB2.out)
            have HW1 := Aside0.mk (show IntKind.i64.wrap (p.f0 + bx) = p.f0 + bx from IntWalk.i64_in _ (by omega))
            go_wp2_with (first | ((with_reducible refine gate_builtin (b := .append) (xs := #[.tmp 64, .tmp 76]) rfl ?_); at_builtin; refine Kd.R_append k23 (w0 := wo) wo.heap.size rfl (.tmp 64) (.tmp 76) 47 23 (.agg #[(.int .i64 0), (.int .i64 0)]) 16 rfl Try.underlying47 info23m rfl (by decide) (by omega) _ (mvR bx bY (r.take j)) (mvP bx bY p) [.int .i64 (p.f0 + bx), .int .i64 (p.f1 + bY)] (fun _ => True) (fun _ => False) rfl rfl (k23_mkM _ _ _ _) (fun _ hk => hk.elim) (fun _ _ => trivial) HO2.out HB2.out hbs.out ?aL ?_; (case aL => simp only [mvR, List.length_map, List.length_take]; omega); intro v1 w3 ho hb hg hat))
            go_roundw
            case rel =>
              refine ⟨j + 1, by go_num, ⟨by omega⟩, ⟨?_⟩, ⟨hb⟩⟩
              rw [HP.out]
              exact ho
            case measure => simp [intOf]; omega
          · obtain rfl : j = r.length := by omega
            have d1 : decide ((r.length : Int) < (r.length : Int)) = false := by simp
            rw [List.take_length] at HO1
            obtain ⟨A1, c1, hv1⟩ := Kd.R_slice HO1.out
            have hl1 : (mvR bx bY r).length = r.length := by simp [mvR]
            subst hv1
            have HR1 := Aside0.mk (Kd.R_newR HO1.out HO.out)
            have HO3 := Aside0.mk (Kd.R_below HO.out HB1.out)
            have HB3 := Aside0.mk (below_step HBr.out HB1.out)
            have hbs := Aside0.mk (below_size HBr.out)
            have hbs1 := Aside0.mk (below_size HB3.out)
            clear hl1 hj
            go_wp2_with (first | ((with_reducible refine gate_builtin (b := .append) (xs := #[.tmp 79, .tmp 81]) rfl ?_); at_builtin; refine Kd.R_append (Kd.slice 23 k23) (w0 := w2) w2.heap.size rfl (.tmp 79) (.tmp 81) 35 47 (.slice none 0 0) 24 rfl Try.underlying35 info47' rfl (by decide) (by omega) _ (mvL bx bY (l.take k)) (mvR bx bY r) [.slice A1 (mvR bx bY r).length c1] (fun _ => True) (fun k => True ∧ some k ≠ _) rfl rfl ⟨_, rfl, Kd.R_lower HR1.out hbs.out⟩ (fun _ hk => ⟨trivial, hk.2⟩) (fun _ _ => trivial) HO3.out HB3.out hbs1.out ?aL ?_; (case aL => rw [HLEN.out]; omega); intro v2 w4 ho hb hg hat))
            go_roundw
            case rel =>
              refine ⟨k + 1, by go_num, ⟨by omega⟩, ⟨?_⟩, ⟨hb⟩⟩
              rw [HT.out]
              exact ho
            case measure => simp [intOf]; omega
      · obtain rfl : k = l.length := by omega
        have d0 : decide ((l.length : Int) < (l.length : Int)) = false := by simp
        rw [List.take_length] at HO
        obtain ⟨A7, c7, hv7, hc7, hC7⟩ := Kd.R_reads HO.out
        have hl7 : (mvL bx bY l).length = l.length := by simp [mvL]
        have HL7 := Aside0.mk (show (mvL bx bY l).length + sumL (mvL bx bY l) ≤ 1048576 by rw [hl7, sumL_mv]; exact HL.out)
        subst hv7
        have HC7 := Aside0.mk hC7
        have HCC := Aside0.mk hc7
        clear hl7 hc7 hC7 HO
        have hat := (rightB_iff _ _).1 (rightL_at HR.out)
        obtain ⟨a1, a2, a3, a4⟩ := hat
        have c0 := cell_on HBr.out (cell0 0 K4.out rfl); have c1 := cell_on HBr.out (cell0 1 K4.out rfl); have c2 := cell_on HBr.out (cell0 0 K5.out rfl); have c3 := cell_on HBr.out (cell0 1 K5.out rfl)
        have w1' : IntKind.i64.wrap (2 * bx) = 2 * bx := IntWalk.i64_in _ (by omega)
        have w2' : IntKind.i64.wrap (2 * bY) = 2 * bY := IntWalk.i64_in _ (by omega)
        have w3' : IntKind.i64.wrap (x + 2 * bx) = x + 2 * bx := IntWalk.i64_in _ (by omega)
        have w4' : IntKind.i64.wrap (y + 2 * bY) = y + 2 * bY := IntWalk.i64_in _ (by omega)
        go_wp2_with fail
        go_region_held3 (fun w' => Below wr.heap.size wr w' ∧ w'.cell? ⟨w.heap.size, 0, none⟩ = some (.int .i64 x) ∧ w'.cell? ⟨w.heap.size, 1, none⟩ = some (.int .i64 y) ∧ w'.cell? ⟨w.heap.size + 1, 0, none⟩ = some (.int .i64 bx) ∧ w'.cell? ⟨w.heap.size + 1, 1, none⟩ = some (.int .i64 bY))
    (first | (exact ⟨below_drew1 (Below.refl _ _), (World.cell?_drew _ _).trans c0, (World.cell?_drew _ _).trans c1, (World.cell?_drew _ _).trans c2, (World.cell?_drew _ _).trans c3⟩) | (have hH := ‹Below _ _ _ ∧ _›; exact ⟨below_step hH.1 ‹Below _ _ _›, cell_on ‹Below _ _ _› hH.2.1, cell_on ‹Below _ _ _› hH.2.2.1, cell_on ‹Below _ _ _› hH.2.2.2.1, cell_on ‹Below _ _ _› hH.2.2.2.2⟩) | (have hH := ‹Below _ _ _ ∧ _›; exact ⟨pw_below_drewN hH.1 _, hH.2.1, hH.2.2.1, hH.2.2.2.1, hH.2.2.2.2⟩))
    ((first
    | (fail)))
        have hh := (‹Below wr.heap.size wr _ ∧ _›)
        have HB8 := Aside0.mk (below_step HBw.out hh.1)
        have HC8 := Aside0.mk (Kd.C_below HC7.out hh.1)
        clear c0 c1 c2 c3 w1' w2' w3' w4'
        obtain ⟨_, c0, c1, c2, c3⟩ := hh
        have H0 := Aside0.mk (And.intro c0 c1)
        clear c0 c1 c2 c3
        go_wp2_with fail
        refine (right1_any A7 c7 (mvL bx bY l) (x + 2 * bx) (y + 2 * bY) _ HC8.out HCC.out HL7.out).mono ?_
        rintro e w5 ⟨rfl, hb5⟩
        replace HB8 := Aside0.mk (below_step HB8.out hb5)
        replace HC8 := Aside0.mk (Kd.C_below HC8.out hb5)
        have c0 := cell_on hb5 H0.out.1; have c1 := cell_on hb5 H0.out.2
        clear hb5
        cases hr : rightL (mvL bx bY l) (x + 2 * bx) (y + 2 * bY) with
        | false =>
          go_wp2_with fail
          refine (alive11_any _).mono ?_
          rintro e w6 ⟨rfl, hb6⟩
          go_wp2_with fail
          go_ret
          exact ⟨rfl, below_step HB8.out hb6⟩
        | true =>
          have hm := wind_mv bx bY x y l HR.out hr
          obtain ⟨n, hn⟩ : ∃ n, windN x y (allE l) = n := ⟨_, rfl⟩
          obtain ⟨o, ho⟩ : ∃ o, windO x y (allE l) = o := ⟨_, rfl⟩
          rw [hn, ho] at hm
          have HM1 := Aside0.mk (And.intro hn ho)
          have HM2 := Aside0.mk hm
          clear hn ho hm hr
          go_wp2_with fail
          refine (wind1_any A c l x y _ (Kd.C_below HA.out HB8.out) HC.out HL.out).mono ?_
          rintro e w6 ⟨rfl, hb6⟩
          replace HB8 := Aside0.mk (below_step HB8.out hb6)
          replace HC8 := Aside0.mk (Kd.C_below HC8.out hb6)
          clear hb6 c0 c1
          rw [HM1.out.1, HM1.out.2]
          go_wp2_with fail
          refine (wind1_any A7 c7 (mvL bx bY l) (x + 2 * bx) (y + 2 * bY) _ HC8.out HCC.out HL7.out).mono ?_
          rintro e w7 ⟨rfl, hb7⟩
          replace HB8 := Aside0.mk (below_step HB8.out hb7)
          clear hb7
          rw [HM2.out.1, HM2.out.2]
          go_wp2_with fail
          refine (alive11_any _).mono ?_
          rintro e w8 ⟨rfl, hb8⟩
          go_wp2_with fail
          go_ret
          exact ⟨rfl, below_step HB8.out hb8⟩

theorem inputMoved_walk
    (w : World) (A : Option Addr) (c : Nat) (l : List (List S23)) (hc : l.length ≤ c) (hA : Kd.C (Kd.slice 23 k23) w A l.length l) (x y bx bY : Int) (hl : l.length + sumL l ≤ 1048576) :
    Calls Try.prog 7 #[.slice A l.length c, .agg #[.int .i64 x, .int .i64 y], .agg #[.int .i64 bx, .int .i64 bY]] w fun e w' => e = .returned (.bool true) ∧ Below w.heap.size w w' := by
  by_cases h1 : l.length + sumL l ≤ 200
  · by_cases h2 : 134217728 < bx
    · exact moved_out w A c l hc hA x y bx bY hl (Or.inr ⟨h1, Or.inl h2⟩)
    · by_cases h3 : bx < -134217728
      · exact moved_out w A c l hc hA x y bx bY hl (Or.inr ⟨h1, Or.inr ⟨by omega, Or.inl h3⟩⟩)
      · by_cases h4 : 134217728 < bY
        · exact moved_out w A c l hc hA x y bx bY hl (Or.inr ⟨h1, Or.inr ⟨by omega, Or.inr ⟨by omega, Or.inl h4⟩⟩⟩)
        · by_cases h5 : bY < -134217728
          · exact moved_out w A c l hc hA x y bx bY hl (Or.inr ⟨h1, Or.inr ⟨by omega, Or.inr ⟨by omega, Or.inr ⟨by omega, h5⟩⟩⟩⟩)
          · exact moved_in w A c l hc hA x y bx bY hl h1 (by omega) (by omega) (by omega) (by omega)
  · exact moved_out w A c l hc hA x y bx bY hl (Or.inl (by omega))
end Go.Proofs.Ytpfgjagpaddcpaa.Own
