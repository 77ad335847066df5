import Derived.Test.YtpfgjagpaddcpaaBa6
import Derived.Deep.DeepCutAuto
/-! Texts that this law leans on, put together by a program of this session: Q3 Q2 G8. -/
/-! How often a ring goes around a place: turned, begun elsewhere, together with another one. -/
namespace Go.Proofs.Ytpfgjagpaddcpaa.Own
open Go.RowKit Go.Proofs.YtpfgjagpaddcpaaW.PrintWords Go.Proofs.YtpfgjagpaddcpaaW.PrintLast Go.Proofs.YtpfgjagpaddcpaaW.PrintMore
open Go.Proofs.Ytpfgjagpaddcpaa.X
set_option linter.unusedVariables false
set_option linter.unusedSimpArgs false

theorem crossB_swap (ax ay bx by_ x y : Int) : crossB bx by_ ax ay x y = - crossB ax ay bx by_ x y := by
  unfold crossB
  by_cases h : rightB ax ay = true ∧ rightB bx by_ = true ∧ rightB x y = true
  · rw [if_pos h, if_pos ⟨h.2.1, h.1, h.2.2⟩]
    grind
  · rw [if_neg h, if_neg (fun k => h ⟨k.2.1, k.1, k.2.2⟩)]
    rfl
theorem sgn_neg_of (n : Int) : sgn (-n) = - sgn n := by unfold sgn; split <;> split <;> (try split) <;> omega

theorem tuE_swp (x y : Int) (e : S23 × S23) : tuE x y (swp e) = - tuE x y e := by
  unfold tuE swp
  rw [crossB_swap, sgn_neg_of]
theorem wnE_swp (x y : Int) (e : S23 × S23) : wnE x y (swp e) = - wnE x y e := by
  have h := tuE_swp x y e
  unfold wnE upE dnE
  rw [h]
  have e1 : (swp e).1 = e.2 := rfl
  have e2 : (swp e).2 = e.1 := rfl
  rw [e1, e2]
  simp only [decide_eq_true_eq]
  split <;> split <;> (try split) <;> (try split) <;> omega
theorem onB_swap (x y ax ay bx by_ : Int) : onB x y bx by_ ax ay = onB x y ax ay bx by_ := by
  unfold onB
  rw [crossB_swap, sgn_neg_of]
  have e : decide (-sgn (crossB ax ay bx by_ x y) = 0) = decide (sgn (crossB ax ay bx by_ x y) = 0) := by rw [decide_eq_decide]; omega
  rw [e]
  have m1 : mn bx ax = mn ax bx := by unfold mn; split <;> split <;> omega
  have m2 : mn by_ ay = mn ay by_ := by unfold mn; split <;> split <;> omega
  have m3 : mx bx ax = mx ax bx := by unfold mx; split <;> split <;> omega
  have m4 : mx by_ ay = mx ay by_ := by unfold mx; split <;> split <;> omega
  rw [m1, m2, m3, m4]
  cases rightB ax ay <;> cases rightB bx by_ <;> rfl
theorem onE_swp (x y : Int) (e : S23 × S23) : onE x y (swp e) = onE x y e := by
  unfold onE swp
  exact onB_swap _ _ _ _ _ _

theorem pth_fst' (xs : List S23) : ∀ a b : S23, (pth a (xs ++ [b])).map Prod.fst = a :: xs := by
  induction xs with
  | nil => intro a b; rfl
  | cons c xs ih => intro a b; simp [pth, ih c b]
theorem edgs_fst' (l : List S23) : (edgs l).map Prod.fst = l := by
  cases l with
  | nil => rfl
  | cons a r => exact pth_fst' r a a
/-- Is a point right, and so twice it. -/
def okT (p : S23) : Bool := rightB (tw p).f0 (tw p).f1
theorem okAll_edgs (x y : Int) (l : List S23) : okAll x y (edgs l) = (rightB x y && l.all okT) := by
  unfold okAll
  congr 1
  conv => rhs; rw [← edgs_fst' l, List.all_map]
  rfl
theorem all_rev (l : List S23) (p : S23 → Bool) : l.reverse.all p = l.all p := by simp
theorem all_perm {l m : List S23} (h : l.Perm m) (p : S23 → Bool) : l.all p = m.all p := by
  rw [Bool.eq_iff_iff, List.all_eq_true, List.all_eq_true]
  exact ⟨fun k x hx => k x (h.mem_iff.2 hx), fun k x hx => k x (h.mem_iff.1 hx)⟩

theorem wsum_perm (x y : Int) {a b : List (S23 × S23)} (h : a.Perm b) : wsum x y a = wsum x y b := sum_perm (h.map _)
theorem wsum_swp (x y : Int) (es : List (S23 × S23)) : wsum x y (es.map swp) = - wsum x y es := by
  induction es with
  | nil => rfl
  | cons e es ih =>
    have h1 : wsum x y ((e :: es).map swp) = wnE x y (swp e) + wsum x y (es.map swp) := rfl
    have h2 : wsum x y (e :: es) = wnE x y e + wsum x y es := rfl
    rw [h1, h2, ih, wnE_swp]
    omega
theorem any_swp (x y : Int) (es : List (S23 × S23)) : (es.map swp).any (onE x y) = es.any (onE x y) := by
  rw [List.any_map]
  congr 1
  funext e
  exact onE_swp x y e

/-- A ring the other way round. -/
theorem wind_rev (x y : Int) (l : List S23) : windN x y (edgs l.reverse) = - windN x y (edgs l) ∧ windO x y (edgs l.reverse) = windO x y (edgs l) := by
  have h1 : okAll x y (edgs l.reverse) = okAll x y (edgs l) := by rw [okAll_edgs, okAll_edgs, all_rev]
  have h2 : (edgs l.reverse).any (onE x y) = (edgs l).any (onE x y) := by rw [any_perm (edgs_rev l), any_swp]
  have h3 : wsum x y (edgs l.reverse) = - wsum x y (edgs l) := by rw [wsum_perm x y (edgs_rev l), wsum_swp]
  unfold windN windO
  rw [h1, h2, h3]
  refine ⟨?_, rfl⟩
  split
  · split <;> omega
  · omega
/-- A ring that is begun elsewhere. -/
theorem wind_rot (x y : Int) (u v : List S23) : windN x y (edgs (v ++ u)) = windN x y (edgs (u ++ v)) ∧ windO x y (edgs (v ++ u)) = windO x y (edgs (u ++ v)) := by
  have hp := edgs_rot v u
  have h1 : okAll x y (edgs (v ++ u)) = okAll x y (edgs (u ++ v)) := by rw [okAll_edgs, okAll_edgs, all_perm List.perm_append_comm]
  have h2 : (edgs (v ++ u)).any (onE x y) = (edgs (u ++ v)).any (onE x y) := any_perm hp
  have h3 : wsum x y (edgs (v ++ u)) = wsum x y (edgs (u ++ v)) := wsum_perm x y hp
  unfold windN windO
  rw [h1, h2, h3]
  exact ⟨rfl, rfl⟩
/-- Rings together. -/
theorem wind_two_rings (x y : Int) (es fs : List (S23 × S23)) : (okAll x y (es ++ fs) = false → windN x y (es ++ fs) = 0 ∧ windO x y (es ++ fs) = false) ∧
    (okAll x y (es ++ fs) = true → windO x y (es ++ fs) = (windO x y es || windO x y fs) ∧ (windO x y (es ++ fs) = false → windN x y (es ++ fs) = windN x y es + windN x y fs)) := by
  constructor
  · intro h
    unfold windN windO
    rw [h]
    exact ⟨rfl, rfl⟩
  · intro h
    have h' := h
    unfold okAll at h'
    rw [List.all_append, Bool.and_eq_true, Bool.and_eq_true] at h'
    have h1 : okAll x y es = true := by unfold okAll; rw [h'.1, h'.2.1]; rfl
    have h2 : okAll x y fs = true := by unfold okAll; rw [h'.1, h'.2.2]; rfl
    unfold windN windO
    rw [h, h1, h2, List.any_append]
    refine ⟨by simp, fun h3 => ?_⟩
    simp only [Bool.true_and, Bool.or_eq_false_iff] at h3
    rw [h3.1, h3.2]
    simp [wsum]
theorem windN_bd (x y : Int) (es : List (S23 × S23)) : -(es.length : Int) ≤ windN x y es ∧ windN x y es ≤ (es.length : Int) := by
  have := wsum_bd x y es
  unfold windN
  split
  · split <;> omega
  · omega
theorem allE_one (l : List S23) : allE [l] = edgs l := by simp [allE]
theorem allE_two (l m : List S23) : allE [l, m] = edgs l ++ edgs m := by simp [allE]
end Go.Proofs.Ytpfgjagpaddcpaa.Own

/-! Wind by a ray to the right, and by a ray upwards: the same around rings; the reference's edges, right and Wind. -/
namespace Go.Proofs.Ytpfgjagpaddcpaa.Own
open Go.RowKit Go.Proofs.YtpfgjagpaddcpaaW.PrintWords Go.Proofs.YtpfgjagpaddcpaaW.PrintLast Go.Proofs.YtpfgjagpaddcpaaW.PrintMore
open Go.Proofs.Ytpfgjagpaddcpaa.X
set_option linter.unusedVariables false
set_option linter.unusedSimpArgs false

/-- Is a point right, and so twice it. -/
def okP (p : S23) : Bool := rightB p.f0 p.f1 && rightB (2 * p.f0) (2 * p.f1)
theorem okP_tw (p : S23) : rightB (tw p).f0 (tw p).f1 = okP p := by
  unfold tw okP
  cases h : rightB p.f0 p.f1 with
  | true => simp
  | false => simp; decide
theorem pth_fst (xs : List S23) : ∀ a b : S23, (pth a (xs ++ [b])).map Prod.fst = a :: xs := by
  induction xs with
  | nil => intro a b; rfl
  | cons c xs ih => intro a b; simp [pth, ih c b]
theorem edgs_fst (l : List S23) : (edgs l).map Prod.fst = l := by
  cases l with
  | nil => rfl
  | cons a r => exact pth_fst r a a
theorem all_fst (l : List S23) : (edgs l).all okE = l.all okP := by
  conv => rhs; rw [← edgs_fst l, List.all_map]
  congr 1
  funext e
  exact okP_tw e.1

/-- Are all points right, twice, and the place. -/
def rightL (ls : List (List S23)) (x y : Int) : Bool := ls.all (fun r => r.all okP) && rightB x y
theorem rightL_ok (ls : List (List S23)) (x y : Int) : okAll x y (allE ls) = rightL ls x y := by
  unfold okAll rightL allE
  rw [Bool.and_comm]
  congr 1
  induction ls with
  | nil => rfl
  | cons r rs ih => simp only [List.flatMap_cons, List.all_append, List.all_cons, ih, all_fst]

/-! #### the two rays -/
/-! #### the reference's edges -/
/-! #### right -/
theorem right1_ev (ls : List (List S23)) (x y N : Int) (i : Nat) (hi : i ≤ 1000000000000) (r : List S23) (hr : r.length ≤ 1000000000000) (v : Bool) (hv : Ev (fun k => cobweblaw11_right.l0 k x y ls N ((i + 1 : Nat) : Int)) v) :
    ∀ (m j : Nat), r.length - j = m → j ≤ r.length → Ev (fun k => cobweblaw11_right.l1 k x y ls N i r r.length j) ((r.drop j).all okP && v) := by
  intro m
  induction m with
  | zero =>
    intro j hm hj
    obtain rfl : j = r.length := by omega
    rw [List.drop_length]
    refine Ev.step hv fun k => ?_
    simp only [cobweblaw11_right.l1, if_neg (show ¬ (r.length : Int) < (r.length : Int) by omega)]
    rw [wrap_id (by omega)]
    rfl
  | succ m ih =>
    intro j hm hj
    have hlt : j < r.length := by omega
    have hlt' : (j : Int) < (r.length : Int) := by omega
    rw [getD_drop r z23 j hlt, List.all_cons]
    have hp : rd_T23 r (j : Int) = r.getD j z23 := by simp [rd_T23]
    generalize r.getD j z23 = p at hp ⊢
    have hs : ∀ k, cobweblaw11_right.l1 (k + 1) x y ls N i r r.length j = if rightB p.f0 p.f1 = true then (if rightB (wrap64 (2 * p.f0)) (wrap64 (2 * p.f1)) = true then cobweblaw11_right.l1 k x y ls N i r r.length (wrap64 ((j : Int) + 1)) else some false) else some false := by
      intro k
      simp only [cobweblaw11_right.l1, if_pos hlt', if_pos (show (0 : Int) ≤ (j : Int) by omega), hp, refRight_f, Option.bind_some]
    cases h1 : rightB p.f0 p.f1 with
    | false =>
      refine Ev.step (Ev.const _) fun k => ?_
      rw [hs, h1]
      simp [okP, h1]
    | true =>
      have h1' := (rightB_iff _ _).1 h1
      have w1 : wrap64 (2 * p.f0) = 2 * p.f0 := wrap_id (by omega)
      have w2 : wrap64 (2 * p.f1) = 2 * p.f1 := wrap_id (by omega)
      cases h2 : rightB (2 * p.f0) (2 * p.f1) with
      | false =>
        refine Ev.step (Ev.const _) fun k => ?_
        rw [hs, h1, w1, w2, h2]
        simp [okP, h1, h2]
      | true =>
        have ho : okP p = true := by simp [okP, h1, h2]
        rw [ho, Bool.true_and]
        refine Ev.step (ih (j + 1) (by omega) (by omega)) fun k => ?_
        rw [hs, h1, w1, w2, h2, wrap_id (by omega)]
        rfl

theorem right_ev (ls : List (List S23)) (x y : Int) (hl : ls.length ≤ 1000000000000) (hls : ∀ r ∈ ls, r.length ≤ 1000000000000) : ∀ (m i : Nat), ls.length - i = m → i ≤ ls.length → Ev (fun k => cobweblaw11_right.l0 k x y ls ls.length i) (rightL (ls.drop i) x y) := by
  intro m
  induction m with
  | zero =>
    intro i hm hi
    obtain rfl : i = ls.length := by omega
    rw [List.drop_length]
    refine Ev.step (Ev.const _) fun k => ?_
    simp only [cobweblaw11_right.l0, if_neg (show ¬ (ls.length : Int) < (ls.length : Int) by omega), refRight_f, Option.bind_some]
    simp [rightL]
  | succ m ih =>
    intro i hm hi
    have hlt : i < ls.length := by omega
    have hmem : ls.getD i [] ∈ ls := by
      rw [List.getD_eq_getElem?_getD, List.getElem?_eq_getElem hlt]
      exact List.getElem_mem _
    have hrl := hls _ hmem
    have he : rightL (ls.drop i) x y = ((ls.getD i []).all okP && rightL (ls.drop (i + 1)) x y) := by
      rw [getD_drop ls [] i hlt]
      simp [rightL, Bool.and_assoc]
    rw [he]
    have hr' : rd_L2 ls (i : Int) = ls.getD i [] := by simp [rd_L2]
    generalize ls.getD i [] = r at hr' hrl ⊢
    have h1 := right1_ev ls x y ls.length i (by omega) r hrl _ (ih (i + 1) (by omega) (by omega)) r.length 0 (by omega) (by omega)
    rw [List.drop_zero] at h1
    refine Ev.step h1 fun k => ?_
    simp only [cobweblaw11_right.l0, if_pos (show (i : Int) < (ls.length : Int) by omega), if_pos (show (0 : Int) ≤ (i : Int) by omega), hr']
    rfl

theorem right_f' (ls : List (List S23)) (x y : Int) (hl : ls.length ≤ 1000000000000) (hls : ∀ r ∈ ls, r.length ≤ 1000000000000) : Ev (fun k => cobweblaw11_right.f k ls x y) (rightL ls x y) := by
  have := right_ev ls x y hl hls ls.length 0 (by omega) (by omega)
  exact this.congr fun k => rfl

/-! #### the reference's Wind -/
end Go.Proofs.Ytpfgjagpaddcpaa.Own

/-! InputTurned, walked. -/
namespace Go.Proofs.Ytpfgjagpaddcpaa.Own
open Go.RowKit Go.Proofs.YtpfgjagpaddcpaaW.PrintWords Go.Proofs.YtpfgjagpaddcpaaW.PrintLast Go.Proofs.YtpfgjagpaddcpaaW.PrintMore
open Go.Proofs.Ytpfgjagpaddcpaa.X
set_option linter.unusedVariables false
set_option linter.unusedSimpArgs false

theorem info23r : (Try.prog.info? 23).map (fun i => (i.zero, i.size, i.bytes)) = some (some (.agg #[(.int .i64 0), (.int .i64 0)]), 2, 16) := by kernel_rfl

theorem rev_step' (l : List S23) (x : Int) (h0 : 0 ≤ x) (h1 : x < l.length) : l.reverse.take x.toNat ++ [rd_T23 l ((l.length : Int) - 1 - x)] = l.reverse.take (x + 1).toNat := by
  obtain ⟨n, rfl⟩ := Int.eq_ofNat_of_zero_le h0
  have hn : n < l.length := by omega
  have e1 : ((n : Int) + 1).toNat = n + 1 := by omega
  have e2 : ((l.length : Int) - 1 - (n : Int)).toNat = l.length - 1 - n := by omega
  rw [e1, Int.toNat_natCast]
  have hg : l.reverse[n]? = some (rd_T23 l ((l.length : Int) - 1 - (n : Int))) := by
    unfold rd_T23
    rw [e2, List.getElem?_reverse hn, List.getD_eq_getElem?_getD, List.getElem?_eq_getElem (by omega)]
    rfl
  rw [List.take_add_one, hg]
  rfl

theorem wind_r1 (W : World) (A : Option Addr) (n c : Nat) (l : List S23) (x y : Int) (hn : l.length = n) (hC : Kd.C k23 W A l.length l) (hc : n ≤ c) (hl : n ≤ 100) :
    Calls Try.prog 38 #[.slice (some ⟨W.heap.size, 0, none⟩) 1 1, .int .i64 x, .int .i64 y] (W.alloc (.cells #[.slice A n c] 47)) fun e w' => e = .returned (.tuple #[.int .i64 (windN x y (edgs l)), .bool (windO x y (edgs l))]) ∧ Below W.heap.size W w' := by
  subst hn
  have hb := below_alloc (Below.refl W.heap.size W) (.cells #[.slice A l.length c] 47)
  refine (wind_any _ 1 [l] x y _ (C_ring1 (blk_new W _) (Kd.C_below hC hb) hc) (by simp) (by rw [allE_one, edgs_length]; simp; omega)).mono fun e w' ⟨h1, h2⟩ => ?_
  rw [allE_one] at h1
  exact ⟨h1, below_step hb h2⟩
theorem wind_r2 (W : World) (A B : Option Addr) (c c' : Nat) (l m : List S23) (x y : Int) (hC : Kd.C k23 W A l.length l) (hc : l.length ≤ c) (hC' : Kd.C k23 W B m.length m) (hc' : m.length ≤ c') (hl : l.length ≤ 100) (hm : m.length ≤ 100) :
    Calls Try.prog 38 #[.slice (some ⟨W.heap.size, 0, none⟩) 2 2, .int .i64 x, .int .i64 y] (W.alloc (.cells #[.slice A l.length c, .slice B m.length c'] 47)) fun e w' => e = .returned (.tuple #[.int .i64 (windN x y (edgs l ++ edgs m)), .bool (windO x y (edgs l ++ edgs m))]) ∧ Below W.heap.size W w' := by
  have hb := below_alloc (Below.refl W.heap.size W) (.cells #[.slice A l.length c, .slice B m.length c'] 47)
  refine (wind_any _ 2 [l, m] x y _ (C_ring2 (blk_new W _) (Kd.C_below hC hb) hc (Kd.C_below hC' hb) hc') (by simp) (by rw [allE_two, List.length_append, edgs_length, edgs_length]; simp; omega)).mono fun e w' ⟨h1, h2⟩ => ?_
  rw [allE_two] at h1
  exact ⟨h1, below_step hb h2⟩
theorem right_r2 (W : World) (A B : Option Addr) (c c' : Nat) (l m : List S23) (x y : Int) (hC : Kd.C k23 W A l.length l) (hc : l.length ≤ c) (hC' : Kd.C k23 W B m.length m) (hc' : m.length ≤ c') (hl : l.length ≤ 100) (hm : m.length ≤ 100) :
    Calls Try.prog 37 #[.slice (some ⟨W.heap.size, 0, none⟩) 2 2, .int .i64 x, .int .i64 y] (W.alloc (.cells #[.slice A l.length c, .slice B m.length c'] 47)) fun e w' => e = .returned (.bool (okAll x y (edgs l ++ edgs m))) ∧ Below W.heap.size W w' := by
  have hb := below_alloc (Below.refl W.heap.size W) (.cells #[.slice A l.length c, .slice B m.length c'] 47)
  obtain ⟨k, hk⟩ := (right_f' [l, m] x y (by simp) (fun r hr => by simp at hr; rcases hr with rfl | rfl <;> omega)).get
  rw [← rightL_ok, allE_two] at hk
  exact (cobweblaw11_right.calls k _ 2 [l, m] x y _ _ (C_ring2 (blk_new W _) (Kd.C_below hC hb) hc (Kd.C_below hC' hb) hc') (by simp) hk).mono fun e w' ⟨h1, h2⟩ => ⟨h1, below_step hb h2⟩

set_option maxHeartbeats 16000000 in
set_option maxRecDepth 100000 in
theorem turned_in
    (w : World) (A : Option Addr) (ca : Nat) (a : List S23) (hca : a.length ≤ ca) (hA : Kd.C k23 w A a.length a) (B : Option Addr) (cb : Nat) (b : List S23) (hcb : b.length ≤ cb) (hB : Kd.C k23 w B b.length b) (x y at_ : Int) (hla : a.length ≤ 100) (hlb : b.length ≤ 100) (h0 : 0 ≤ at_) (h1 : at_ < a.length) :
    Calls Try.prog 17 #[.slice A a.length ca, .slice B b.length cb, .agg #[.int .i64 x, .int .i64 y, .int .i64 at_]] w fun e w' => e = .returned (.bool true) ∧ Below w.heap.size w w' := by
  obtain ⟨n, hn⟩ : ∃ n, windN x y (edgs a) = n := ⟨_, rfl⟩
  obtain ⟨o, ho⟩ : ∃ o, windO x y (edgs a) = o := ⟨_, rfl⟩
  obtain ⟨p, hp⟩ : ∃ p, windN x y (edgs b) = p := ⟨_, rfl⟩
  obtain ⟨o2, ho2⟩ : ∃ o2, windO x y (edgs b) = o2 := ⟨_, rfl⟩
  have NA := Aside0.mk (And.intro hn ho)
  have NB := Aside0.mk (And.intro hp ho2)
  have NR := Aside0.mk (show windN x y (edgs a.reverse) = -n ∧ windO x y (edgs a.reverse) = o by rw [← hn, ← ho]; exact wind_rev x y a)
  have N2 := Aside0.mk (wind_two_rings x y (edgs a) (edgs b))
  rw [hn, ho, hp, ho2] at N2
  have nb := windN_bd x y (edgs a)
  have pb := windN_bd x y (edgs b)
  rw [hn, edgs_length] at nb
  rw [hp, edgs_length] at pb
  obtain ⟨nb1, nb2⟩ : -100 ≤ n ∧ n ≤ 100 := by omega
  obtain ⟨pb1, pb2⟩ : -100 ≤ p ∧ p ≤ 100 := by omega
  have hwn : IntKind.i64.wrap (-n) = -n := IntWalk.i64_in _ (by omega)
  have hwp : IntKind.i64.wrap (n + p) = n + p := IntWalk.i64_in _ (by omega)
  clear hn ho hp ho2 nb pb
  have hu72 := Try.underlying72
  have HA := Aside0.mk hA
  have HB0 := Aside0.mk hB
  have HCA := Aside0.mk hca
  have HCB := Aside0.mk hcb
  have HLA := Aside0.mk hla
  have HLB := Aside0.mk hlb
  have hd1 : decide (100 < (a.length : Int)) = false := decide_eq_false (by omega)
  have hd2 : decide (100 < (b.length : Int)) = false := decide_eq_false (by omega)
  clear hA hB hcb hlb
  go_enter Try.func17, Try.ntmps17
  go_wp2_with fail
  have hk := blk_new w (.cells #[.int .i64 x, .int .i64 y, .int .i64 at_] 72)
  have HW0 := Aside0.mk (below_alloc (Below.refl w.heap.size w) (.cells #[.int .i64 x, .int .i64 y, .int .i64 at_] 72))
  generalize w.alloc (.cells #[.int .i64 x, .int .i64 y, .int .i64 at_] 72) = W0 at hk HW0 ⊢
  obtain ⟨g, hg⟩ : ∃ g, w.heap.size = g := ⟨_, rfl⟩
  rw [hg] at hk ⊢
  have c0 := cell0 0 hk rfl; have c1 := cell0 1 hk rfl; have c2 := cell0 2 hk rfl
  clear hd1 hd2
  go_region_held3 (fun w' => Below W0.heap.size W0 w' ∧ w'.cell? ⟨g, 0, none⟩ = some (.int .i64 x) ∧ w'.cell? ⟨g, 1, none⟩ = some (.int .i64 y) ∧ w'.cell? ⟨g, 2, none⟩ = some (.int .i64 at_))
    (first | (exact ⟨below_drew1 (Below.refl _ _), (World.cell?_drew _ _).trans c0, (World.cell?_drew _ _).trans c1, (World.cell?_drew _ _).trans c2⟩) | (have hH := ‹Below _ _ _ ∧ _›; exact ⟨below_step hH.1 ‹Below _ _ _›, cell_on ‹Below _ _ _› hH.2.1, cell_on ‹Below _ _ _› hH.2.2.1, cell_on ‹Below _ _ _› hH.2.2.2⟩) | (have hH := ‹Below _ _ _ ∧ _›; exact ⟨pw_below_drewN hH.1 _, hH.2.1, hH.2.2.1, hH.2.2.2⟩))
    ((first
    | (fail)))
  have hh := (‹Below W0.heap.size W0 _ ∧ _›).1
  have HB := Aside0.mk (below_step HW0.out hh)
  clear hh c0 c1 c2 hk HW0
  rw [← hg]
  clear hg
  go_wp2_with fail
  go_loopw [10, 40] (fun v i wr => ∃ x0 : Int, i = .int .i64 x0 ∧ Aside0 (0 ≤ x0 ∧ x0 ≤ a.length) ∧ Aside0 (Kd.R k23 23 wr w.heap.size (fun _ => True) v (a.reverse.take x0.toNat)) ∧ Aside0 (Below w.heap.size w wr)) (fun _ i _ => a.length - (intOf i).toNat)
  case atStart => exact ⟨0, rfl, ⟨by omega, by omega⟩, ⟨Kd.R_nil _ _ _ _ _⟩, HB⟩
  case round =>
    obtain ⟨x0, rfl, HX, HO, HB'⟩ := hrel
    clear HB
    have HB := HB'
    clear HB'
    obtain ⟨hx0, hx1⟩ := HX.out
    clear HX
    by_cases hlt : x0 < (a.length : Int)
    · have c3b0 : decide (x0 < (a.length : Int)) = true := decide_eq_true hlt
      obtain ⟨ad, e1, g0, g1⟩ := at_T23 (Kd.C_below HA.out HB.out) ((a.length : Int) - 1 - x0) (by omega) (by omega)
      cases e1
      have p0 : 0 ≤ (a.length : Int) - 1 - x0 := by omega
      have p1 : (a.length : Int) - 1 - x0 < (a.length : Int) := by omega
      have hbs := Aside0.mk (below_size HB.out)
      go_wp2_with (first | ((with_reducible refine gate_builtin (b := .append) (xs := #[.tmp 43, .tmp 52]) rfl ?_); at_builtin; refine Kd.R_append k23 (w0 := w) w.heap.size rfl (.tmp 43) (.tmp 52) 47 23 (.agg #[(.int .i64 0), (.int .i64 0)]) 16 rfl Try.underlying47 info23r rfl (by decide) (by omega) _ (a.reverse.take x0.toNat) (⟨(rd_T23 a ((a.length : Int) - 1 - x0)).f0, (rd_T23 a ((a.length : Int) - 1 - x0)).f1⟩ : S23) [.int .i64 ((rd_T23 a ((a.length : Int) - 1 - x0)).f0), .int .i64 ((rd_T23 a ((a.length : Int) - 1 - x0)).f1)] (fun _ => True) (fun _ => False) rfl rfl (k23_mkM _ _ _ _) (fun _ hk => hk.elim) (fun _ _ => trivial) HO.out HB.out hbs.out ?aL ?_; (case aL => simp only [List.length_take, List.length_reverse]; omega); intro v1 w2 ho hb hg hat))
      go_roundw
      case rel =>
        refine ⟨x0 + 1, by go_num, ⟨by omega, by omega⟩, ⟨?_⟩, ⟨hb⟩⟩
        rw [← rev_step' a x0 hx0 hlt]
        exact ho
      case measure => simp [intOf]; omega
    · have c3b0 : decide (x0 < (a.length : Int)) = false := decide_eq_false hlt
      obtain rfl : x0 = a.length := by omega
      clear hx0 hx1 hlt
      have HBk0 := HO.out
      rw [show a.reverse.take ((a.length : Int)).toNat = a.reverse by rw [Int.toNat_natCast]; exact List.take_of_length_le (by simp)] at HBk0
      obtain ⟨A6, c6, hv, hc6, HBk1⟩ := Kd.R_reads HBk0
      have hlr : a.reverse.length = a.length := List.length_reverse
      rw [hlr] at hv hc6
      subst hv
      have HBk := Aside0.mk HBk1
      have HC6 := Aside0.mk hc6
      have HLR := Aside0.mk hlr
      clear HBk1 HBk0 HO hlr hc6
      have hat0 : decide (0 ≤ at_) = true := decide_eq_true h0
      have hat1 : decide (at_ < (a.length : Int)) = true := decide_eq_true h1
      go_wp2_with fail
      obtain ⟨i035, hi035, _, hsz35, _⟩ := info_parts info23r
      have hcut35 := cut_from (P := Try.prog) 47 23 .i64 Try.underlying47 hi035 2 hsz35 A a.length ca at_ h0 (by omega)
      have hr35 := Kd.C_drop (m := at_.toNat) (c := ca) (Kd.C_below HA.out HB.out) (by omega) hca
      obtain ⟨A35, hA35⟩ : ∃ A1, A1 = (if ca = at_.toNat then A else A.map (·.add (at_.toNat * 2))) := ⟨_, rfl⟩
      obtain ⟨c35, hc35⟩ : ∃ c1, c1 = ca - at_.toNat := ⟨_, rfl⟩
      obtain ⟨ys, hys⟩ : ∃ y, y = a.drop at_.toNat := ⟨_, rfl⟩
      obtain ⟨zs, hzs⟩ : ∃ y, y = a.take at_.toNat := ⟨_, rfl⟩
      have hy35 : ys.length = a.length - at_.toNat := by rw [hys, List.length_drop]
      have hz35 : zs.length = at_.toNat := by rw [hzs, List.length_take]; omega
      rw [← hys] at hr35
      replace hr35 : Kd.C k23 wr A35 ys.length ys := by rw [hA35]; exact hr35
      rw [← hy35, ← hA35, ← hc35] at hcut35
      have hcut36 := cut_to (P := Try.prog) 47 23 .i64 Try.underlying47 hi035 A a.length ca at_ h0 (by omega) hca
      have hr36 := Kd.C_take (m := at_.toNat) (Kd.C_below HA.out HB.out) (by omega)
      rw [← hzs] at hr36
      rw [← hz35] at hcut36
      have NT := Aside0.mk (show windN x y (edgs (ys ++ zs)) = n ∧ windO x y (edgs (ys ++ zs)) = o by
        have h := wind_rot x y (a.take at_.toNat) (a.drop at_.toNat)
        rw [List.take_append_drop, NA.out.1, NA.out.2] at h
        rw [hys, hzs]
        exact h)
      have ly : ys.length ≤ 100 := by omega
      have lz : zs.length ≤ 100 := by omega
      have LT := Aside0.mk (show ys.length + zs.length ≤ 100 by omega)
      clear hA35 hc35 hys hzs hy35 hz35 hi035 hsz35 hat0 hat1
      have HR1 := Aside0.mk (Kd.C_drew hr35)
      have HR2 := Aside0.mk (Kd.C_drew hr36)
      replace HB := Aside0.mk (below_drew1 HB.out)
      replace HBk := Aside0.mk (Kd.C_drew HBk.out)
      clear hr35 hr36
      refine start_ (n := 10) (S := fun w' => True) (ds := []) #[false, false, false, false, false, false, false, false, false, false] (by kernel_rfl) rfl rfl trivial (fun hHeld => ?_)
      generalize wr.drew = W0 at HB HBk HR1 HR2 hHeld ⊢
      refine pure_ (i := 0) (N := some 63) (v := ?_) (a' := ?_) #[true, false, false, false, false, false, false, false, false, false] rfl rfl (by kernel_rfl) (fun _ _ _ h => h) (Or.inl ⟨by rfl, ?_⟩) ?_ ?_
      rotate_left
      · intro w'
        go_simp
        with_reducible rfl
      rotate_left
      · simp only [Act.put, List.setIfInBounds_toArray, List.set_cons_zero, List.set_cons_succ, i64_w, i32_w]
        rfl
      refine pure_ (i := 1) (N := some 64) (v := ?_) (a' := ?_) #[true, true, false, false, false, false, false, false, false, false] rfl rfl (by kernel_rfl) (fun _ _ _ h => h) (Or.inl ⟨by rfl, ?_⟩) ?_ ?_
      rotate_left
      · intro w'
        go_simp
        with_reducible rfl
      rotate_left
      · simp only [Act.put, List.setIfInBounds_toArray, List.set_cons_zero, List.set_cons_succ, i64_w, i32_w]
        rfl
      refine pure_ (i := 2) (N := some 65) (v := ?_) (a' := ?_) #[true, true, true, false, false, false, false, false, false, false] rfl rfl (by kernel_rfl) (fun _ _ _ h => h) (Or.inl ⟨by rfl, ?_⟩) ?_ ?_
      rotate_left
      · intro w'
        go_simp
        with_reducible rfl
      rotate_left
      · simp only [Act.put, List.setIfInBounds_toArray, List.set_cons_zero, List.set_cons_succ, i64_w, i32_w]
        rfl
      refine pure_ (i := 3) (N := some 66) (v := ?_) (a' := ?_) #[true, true, true, true, false, false, false, false, false, false] rfl rfl (by kernel_rfl) (fun _ _ _ h => h) (Or.inl ⟨by rfl, ?_⟩) ?_ ?_
      rotate_left
      · intro w'
        go_simp
        with_reducible rfl
      rotate_left
      · simp only [Act.put, List.setIfInBounds_toArray, List.set_cons_zero, List.set_cons_succ, i64_w, i32_w]
        rfl
      refine pure_ (i := 5) (N := some 68) (v := ?_) (a' := ?_) #[true, true, true, true, false, true, false, false, false, false] rfl rfl (by kernel_rfl) (fun _ _ _ h => h) (Or.inl ⟨by rfl, ?_⟩) ?_ ?_
      rotate_left
      · intro w'
        go_simp
        with_reducible rfl
      rotate_left
      · simp only [Act.put, List.setIfInBounds_toArray, List.set_cons_zero, List.set_cons_succ, i64_w, i32_w]
        rfl
      refine pure_ (i := 6) (N := some 69) (v := ?_) (a' := ?_) #[true, true, true, true, false, true, true, false, false, false] rfl rfl (by kernel_rfl) (fun _ _ _ h => h) (Or.inl ⟨by rfl, ?_⟩) ?_ ?_
      rotate_left
      · intro w'
        go_simp
        with_reducible rfl
      rotate_left
      · simp only [Act.put, List.setIfInBounds_toArray, List.set_cons_zero, List.set_cons_succ, i64_w, i32_w]
        rfl
      refine pure_ (i := 7) (N := some 70) (v := ?_) (a' := ?_) #[true, true, true, true, false, true, true, true, false, false] rfl rfl (by kernel_rfl) (fun _ _ _ h => h) (Or.inl ⟨by rfl, ?_⟩) ?_ ?_
      rotate_left
      · intro w'
        go_simp
        with_reducible rfl
      rotate_left
      · simp only [Act.put, List.setIfInBounds_toArray, List.set_cons_zero, List.set_cons_succ, i64_w, i32_w]
        rfl
      refine one_ (i := 4) (N := some 67) #[true, true, true, true, true, true, true, true, false, false] rfl rfl (by kernel_rfl) (by decide) (fun K hK => ?_)
      refine Kd.R_append_rows_step k23 (w0 := W0) W0.heap.size (by rfl) (.tmp 63) (.tmp 66) 47 23 (.agg #[(.int .i64 0), (.int .i64 0)]) 16 rfl Try.underlying47 info23r rfl (by decide) (by omega) (.slice none 0 0) ([] : List S23) ys _ _ _ (fun _ => True) (fun _ => False) rfl rfl (Kd.R_nil k23 23 W0 W0.heap.size _) HR1.out (fun _ _ h => h) (fun _ h => h.elim) (fun _ _ => trivial) ?aB ?aS ?aL ?_
      (case aB => exact Below.refl _ _)
      (case aS => exact Nat.le_refl _)
      (case aL => simp only [List.length_nil]; omega)
      intro v1 w1 ho1 hb1 hg1 hat1
      rw [List.nil_append] at ho1
      have HR2b := Aside0.mk (Kd.C_below HR2.out hb1)
      have HO1 := Aside0.mk ho1
      clear ho1
      refine hK.out _ _ trivial (fun hHeld => ?_)
      clear hK K
      refine norm_ (a' := ?_) ?_ ?_
      rotate_left
      · show Act.put _ (some 67) _ = _
        simp only [Act.put, List.setIfInBounds_toArray, List.set_cons_zero, List.set_cons_succ, i64_w, i32_w]
        rfl
      refine one_ (i := 8) (N := some 71) #[true, true, true, true, true, true, true, true, true, false] rfl rfl (by kernel_rfl) (by decide) (fun K hK => ?_)
      refine Kd.R_append_rows_step k23 (w0 := W0) W0.heap.size (by rfl) (.tmp 67) (.tmp 70) 47 23 (.agg #[(.int .i64 0), (.int .i64 0)]) 16 rfl Try.underlying47 info23r rfl (by decide) (by omega) v1 ys zs _ _ _ (fun _ => True) (fun _ => False) rfl rfl HO1.out HR2b.out (fun _ _ h => h) (fun _ h => h.elim) (fun _ _ => trivial) ?aB ?aS ?aL ?_
      (case aB => exact hb1)
      (case aS => exact hb1.size)
      (case aL => omega)
      intro v2 w2 ho2 hb2 hg2 hat2
      have HO2 := Aside0.mk ho2
      clear ho2 hg2 hat2 hg1 hat1
      refine hK.out _ _ trivial (fun hHeld => ?_)
      clear hK K
      refine norm_ (a' := ?_) ?_ ?_
      rotate_left
      · show Act.put _ (some 71) _ = _
        simp only [Act.put, List.setIfInBounds_toArray, List.set_cons_zero, List.set_cons_succ, i64_w, i32_w]
        rfl
      refine pure_ (i := 9) (N := some 11) (v := ?_) (a' := ?_) #[true, true, true, true, true, true, true, true, true, true] rfl rfl (by kernel_rfl) (fun _ _ _ h => h) (Or.inl ⟨by rfl, ?_⟩) ?_ ?_
      rotate_left
      · intro w'
        go_simp
        with_reducible rfl
      rotate_left
      · simp only [Act.put, List.setIfInBounds_toArray, List.set_cons_zero, List.set_cons_succ, i64_w, i32_w]
        rfl
      refine done_ (by kernel_rfl) ?_
      replace HB := Aside0.mk (below_step HB.out hb2)
      replace HBk := Aside0.mk (Kd.C_below HBk.out hb2)
      obtain ⟨A7, c7, hv7, hc7, HT0⟩ := Kd.R_reads HO2.out
      have hl7 : (ys ++ zs).length = ys.length + zs.length := List.length_append
      rw [hl7] at hv7 hc7
      subst hv7
      have HT := Aside0.mk HT0
      have HC7 := Aside0.mk hc7
      have HL7 := Aside0.mk hl7
      clear HT0 HO2 HR1 HR2 HR2b hb2 hb1 HO1 hc7 hl7 hcut35 hcut36 ly lz h0 h1
      go_wp2_with fail
      refine (wind_r1 _ A a.length ca a x y rfl (Kd.C_below HA.out HB.out) HCA.out HLA.out).mono ?_
      rintro e w3 ⟨rfl, hb3⟩
      replace HB := Aside0.mk (below_step HB.out hb3); replace HBk := Aside0.mk (Kd.C_below HBk.out hb3); replace HT := Aside0.mk (Kd.C_below HT.out hb3)
      clear hb3
      rw [NA.out.1, NA.out.2]
      go_wp2_with fail
      refine (wind_r1 _ A6 a.length c6 a.reverse x y HLR.out HBk.out HC6.out HLA.out).mono ?_
      rintro e w4 ⟨rfl, hb3⟩
      replace HB := Aside0.mk (below_step HB.out hb3); replace HT := Aside0.mk (Kd.C_below HT.out hb3)
      clear hb3
      rw [NR.out.1, NR.out.2]
      go_wp2_with fail
      refine (wind_r1 _ A7 (ys.length + zs.length) c7 (ys ++ zs) x y HL7.out HT.out HC7.out LT.out).mono ?_
      rintro e w5 ⟨rfl, hb3⟩
      replace HB := Aside0.mk (below_step HB.out hb3)
      clear hb3
      rw [NT.out.1, NT.out.2]
      clear HT HBk
      go_wp2_with fail
      refine (wind_r1 _ B b.length cb b x y rfl (Kd.C_below HB0.out HB.out) HCB.out HLB.out).mono ?_
      rintro e w6 ⟨rfl, hb3⟩
      replace HB := Aside0.mk (below_step HB.out hb3)
      clear hb3
      rw [NB.out.1, NB.out.2]
      go_wp2_with fail
      refine (wind_r2 _ A B ca cb a b x y (Kd.C_below HA.out HB.out) HCA.out (Kd.C_below HB0.out HB.out) HCB.out HLA.out HLB.out).mono ?_
      rintro e w7 ⟨rfl, hb3⟩
      replace HB := Aside0.mk (below_step HB.out hb3)
      clear hb3
      cases hok : okAll x y (edgs a ++ edgs b) with
      | false =>
        rw [(N2.out.1 hok).1, (N2.out.1 hok).2]
        have HK := Aside0.mk hok
        clear hok
        go_wp2_with fail
        refine (right_r2 _ A B ca cb a b x y (Kd.C_below HA.out HB.out) HCA.out (Kd.C_below HB0.out HB.out) HCB.out HLA.out HLB.out).mono ?_
        rintro e w8 ⟨rfl, hb3⟩
        replace HB := Aside0.mk (below_step HB.out hb3)
        clear hb3
        rw [HK.out]
        go_wp2_with fail
        refine (alive11_any _).mono ?_
        rintro e w9 ⟨rfl, hb3⟩
        replace HB := Aside0.mk (below_step HB.out hb3)
        clear hb3
        go_wp2_with fail
        go_ret
        exact ⟨rfl, HB.out⟩
      | true =>
        obtain ⟨g1, g2⟩ := N2.out.2 hok
        have HK := Aside0.mk hok
        rw [g1] at g2 ⊢
        have G2 := Aside0.mk g2
        obtain ⟨q, hq⟩ : ∃ q, windN x y (edgs a ++ edgs b) = q := ⟨_, rfl⟩
        rw [hq] at G2 ⊢
        clear hok g1 g2 hq
        cases o <;> cases o2
        case false.false =>
          have hqq := G2.out rfl
          rw [hqq]
          clear hqq
          go_wp2_with fail
          refine (right_r2 _ A B ca cb a b x y (Kd.C_below HA.out HB.out) HCA.out (Kd.C_below HB0.out HB.out) HCB.out HLA.out HLB.out).mono ?_
          rintro e w8 ⟨rfl, hb3⟩
          replace HB := Aside0.mk (below_step HB.out hb3)
          clear hb3
          rw [HK.out]
          go_wp2_with fail
          refine (alive11_any _).mono ?_
          rintro e w9 ⟨rfl, hb3⟩
          replace HB := Aside0.mk (below_step HB.out hb3)
          clear hb3
          go_wp2_with fail
          go_ret
          exact ⟨rfl, HB.out⟩
        all_goals
          go_wp2_with fail
          refine (right_r2 _ A B ca cb a b x y (Kd.C_below HA.out HB.out) HCA.out (Kd.C_below HB0.out HB.out) HCB.out HLA.out HLB.out).mono ?_
          rintro e w8 ⟨rfl, hb3⟩
          replace HB := Aside0.mk (below_step HB.out hb3)
          clear hb3
          rw [HK.out]
          go_wp2_with fail
          refine (alive11_any _).mono ?_
          rintro e w9 ⟨rfl, hb3⟩
          replace HB := Aside0.mk (below_step HB.out hb3)
          clear hb3
          go_wp2_with fail
          go_ret
          exact ⟨rfl, HB.out⟩

set_option maxHeartbeats 16000000 in
set_option maxRecDepth 100000 in
theorem turned_low
    (w : World) (A : Option Addr) (ca : Nat) (a : List S23) (hca : a.length ≤ ca) (hA : Kd.C k23 w A a.length a) (B : Option Addr) (cb : Nat) (b : List S23) (hcb : b.length ≤ cb) (hB : Kd.C k23 w B b.length b) (x y at_ : Int) (hla : a.length ≤ 100) (hlb : b.length ≤ 100) (h0 : at_ < 0) :
    Calls Try.prog 17 #[.slice A a.length ca, .slice B b.length cb, .agg #[.int .i64 x, .int .i64 y, .int .i64 at_]] w fun e w' => e = .returned (.bool true) ∧ Below w.heap.size w w' := by
  obtain ⟨n, hn⟩ : ∃ n, windN x y (edgs a) = n := ⟨_, rfl⟩
  obtain ⟨o, ho⟩ : ∃ o, windO x y (edgs a) = o := ⟨_, rfl⟩
  obtain ⟨p, hp⟩ : ∃ p, windN x y (edgs b) = p := ⟨_, rfl⟩
  obtain ⟨o2, ho2⟩ : ∃ o2, windO x y (edgs b) = o2 := ⟨_, rfl⟩
  have NA := Aside0.mk (And.intro hn ho)
  have NB := Aside0.mk (And.intro hp ho2)
  have NR := Aside0.mk (show windN x y (edgs a.reverse) = -n ∧ windO x y (edgs a.reverse) = o by rw [← hn, ← ho]; exact wind_rev x y a)
  have N2 := Aside0.mk (wind_two_rings x y (edgs a) (edgs b))
  rw [hn, ho, hp, ho2] at N2
  have nb := windN_bd x y (edgs a)
  have pb := windN_bd x y (edgs b)
  rw [hn, edgs_length] at nb
  rw [hp, edgs_length] at pb
  obtain ⟨nb1, nb2⟩ : -100 ≤ n ∧ n ≤ 100 := by omega
  obtain ⟨pb1, pb2⟩ : -100 ≤ p ∧ p ≤ 100 := by omega
  have hwn : IntKind.i64.wrap (-n) = -n := IntWalk.i64_in _ (by omega)
  have hwp : IntKind.i64.wrap (n + p) = n + p := IntWalk.i64_in _ (by omega)
  clear hn ho hp ho2 nb pb
  have hu72 := Try.underlying72
  have HA := Aside0.mk hA
  have HB0 := Aside0.mk hB
  have HCA := Aside0.mk hca
  have HCB := Aside0.mk hcb
  have HLA := Aside0.mk hla
  have HLB := Aside0.mk hlb
  have hd1 : decide (100 < (a.length : Int)) = false := decide_eq_false (by omega)
  have hd2 : decide (100 < (b.length : Int)) = false := decide_eq_false (by omega)
  clear hA hB hcb hlb
  go_enter Try.func17, Try.ntmps17
  go_wp2_with fail
  have hk := blk_new w (.cells #[.int .i64 x, .int .i64 y, .int .i64 at_] 72)
  have HW0 := Aside0.mk (below_alloc (Below.refl w.heap.size w) (.cells #[.int .i64 x, .int .i64 y, .int .i64 at_] 72))
  generalize w.alloc (.cells #[.int .i64 x, .int .i64 y, .int .i64 at_] 72) = W0 at hk HW0 ⊢
  obtain ⟨g, hg⟩ : ∃ g, w.heap.size = g := ⟨_, rfl⟩
  rw [hg] at hk ⊢
  have c0 := cell0 0 hk rfl; have c1 := cell0 1 hk rfl; have c2 := cell0 2 hk rfl
  clear hd1 hd2
  go_region_held3 (fun w' => Below W0.heap.size W0 w' ∧ w'.cell? ⟨g, 0, none⟩ = some (.int .i64 x) ∧ w'.cell? ⟨g, 1, none⟩ = some (.int .i64 y) ∧ w'.cell? ⟨g, 2, none⟩ = some (.int .i64 at_))
    (first | (exact ⟨below_drew1 (Below.refl _ _), (World.cell?_drew _ _).trans c0, (World.cell?_drew _ _).trans c1, (World.cell?_drew _ _).trans c2⟩) | (have hH := ‹Below _ _ _ ∧ _›; exact ⟨below_step hH.1 ‹Below _ _ _›, cell_on ‹Below _ _ _› hH.2.1, cell_on ‹Below _ _ _› hH.2.2.1, cell_on ‹Below _ _ _› hH.2.2.2⟩) | (have hH := ‹Below _ _ _ ∧ _›; exact ⟨pw_below_drewN hH.1 _, hH.2.1, hH.2.2.1, hH.2.2.2⟩))
    ((first
    | (fail)))
  have hh := (‹Below W0.heap.size W0 _ ∧ _›).1
  have HB := Aside0.mk (below_step HW0.out hh)
  clear hh c0 c1 c2 hk HW0
  rw [← hg]
  clear hg
  go_wp2_with fail
  go_loopw [10, 40] (fun v i wr => ∃ x0 : Int, i = .int .i64 x0 ∧ Aside0 (0 ≤ x0 ∧ x0 ≤ a.length) ∧ Aside0 (Kd.R k23 23 wr w.heap.size (fun _ => True) v (a.reverse.take x0.toNat)) ∧ Aside0 (Below w.heap.size w wr)) (fun _ i _ => a.length - (intOf i).toNat)
  case atStart => exact ⟨0, rfl, ⟨by omega, by omega⟩, ⟨Kd.R_nil _ _ _ _ _⟩, HB⟩
  case round =>
    obtain ⟨x0, rfl, HX, HO, HB'⟩ := hrel
    clear HB
    have HB := HB'
    clear HB'
    obtain ⟨hx0, hx1⟩ := HX.out
    clear HX
    by_cases hlt : x0 < (a.length : Int)
    · have c3b0 : decide (x0 < (a.length : Int)) = true := decide_eq_true hlt
      obtain ⟨ad, e1, g0, g1⟩ := at_T23 (Kd.C_below HA.out HB.out) ((a.length : Int) - 1 - x0) (by omega) (by omega)
      cases e1
      have p0 : 0 ≤ (a.length : Int) - 1 - x0 := by omega
      have p1 : (a.length : Int) - 1 - x0 < (a.length : Int) := by omega
      have hbs := Aside0.mk (below_size HB.out)
      go_wp2_with (first | ((with_reducible refine gate_builtin (b := .append) (xs := #[.tmp 43, .tmp 52]) rfl ?_); at_builtin; refine Kd.R_append k23 (w0 := w) w.heap.size rfl (.tmp 43) (.tmp 52) 47 23 (.agg #[(.int .i64 0), (.int .i64 0)]) 16 rfl Try.underlying47 info23r rfl (by decide) (by omega) _ (a.reverse.take x0.toNat) (⟨(rd_T23 a ((a.length : Int) - 1 - x0)).f0, (rd_T23 a ((a.length : Int) - 1 - x0)).f1⟩ : S23) [.int .i64 ((rd_T23 a ((a.length : Int) - 1 - x0)).f0), .int .i64 ((rd_T23 a ((a.length : Int) - 1 - x0)).f1)] (fun _ => True) (fun _ => False) rfl rfl (k23_mkM _ _ _ _) (fun _ hk => hk.elim) (fun _ _ => trivial) HO.out HB.out hbs.out ?aL ?_; (case aL => simp only [List.length_take, List.length_reverse]; omega); intro v1 w2 ho hb hg hat))
      go_roundw
      case rel =>
        refine ⟨x0 + 1, by go_num, ⟨by omega, by omega⟩, ⟨?_⟩, ⟨hb⟩⟩
        rw [← rev_step' a x0 hx0 hlt]
        exact ho
      case measure => simp [intOf]; omega
    · have c3b0 : decide (x0 < (a.length : Int)) = false := decide_eq_false hlt
      obtain rfl : x0 = a.length := by omega
      clear hx0 hx1 hlt
      have HBk0 := HO.out
      rw [show a.reverse.take ((a.length : Int)).toNat = a.reverse by rw [Int.toNat_natCast]; exact List.take_of_length_le (by simp)] at HBk0
      obtain ⟨A6, c6, hv, hc6, HBk1⟩ := Kd.R_reads HBk0
      have hlr : a.reverse.length = a.length := List.length_reverse
      rw [hlr] at hv hc6
      subst hv
      have HBk := Aside0.mk HBk1
      have HC6 := Aside0.mk hc6
      have HLR := Aside0.mk hlr
      clear HBk1 HBk0 HO hlr hc6
      have hat0 : decide (0 ≤ at_) = false := decide_eq_false (by omega)
      have HT := Aside0.mk (Kd.C_below HA.out HB.out)
      have NT := NA
      go_wp2_with fail
      refine (wind_r1 _ A a.length ca a x y rfl (Kd.C_below HA.out HB.out) HCA.out HLA.out).mono ?_
      rintro e w3 ⟨rfl, hb3⟩
      replace HB := Aside0.mk (below_step HB.out hb3); replace HBk := Aside0.mk (Kd.C_below HBk.out hb3); replace HT := Aside0.mk (Kd.C_below HT.out hb3)
      clear hb3
      rw [NA.out.1, NA.out.2]
      go_wp2_with fail
      refine (wind_r1 _ A6 a.length c6 a.reverse x y HLR.out HBk.out HC6.out HLA.out).mono ?_
      rintro e w4 ⟨rfl, hb3⟩
      replace HB := Aside0.mk (below_step HB.out hb3); replace HT := Aside0.mk (Kd.C_below HT.out hb3)
      clear hb3
      rw [NR.out.1, NR.out.2]
      go_wp2_with fail
      refine (wind_r1 _ A a.length ca a x y rfl HT.out HCA.out HLA.out).mono ?_
      rintro e w5 ⟨rfl, hb3⟩
      replace HB := Aside0.mk (below_step HB.out hb3)
      clear hb3
      rw [NT.out.1, NT.out.2]
      clear HT HBk
      go_wp2_with fail
      refine (wind_r1 _ B b.length cb b x y rfl (Kd.C_below HB0.out HB.out) HCB.out HLB.out).mono ?_
      rintro e w6 ⟨rfl, hb3⟩
      replace HB := Aside0.mk (below_step HB.out hb3)
      clear hb3
      rw [NB.out.1, NB.out.2]
      go_wp2_with fail
      refine (wind_r2 _ A B ca cb a b x y (Kd.C_below HA.out HB.out) HCA.out (Kd.C_below HB0.out HB.out) HCB.out HLA.out HLB.out).mono ?_
      rintro e w7 ⟨rfl, hb3⟩
      replace HB := Aside0.mk (below_step HB.out hb3)
      clear hb3
      cases hok : okAll x y (edgs a ++ edgs b) with
      | false =>
        rw [(N2.out.1 hok).1, (N2.out.1 hok).2]
        have HK := Aside0.mk hok
        clear hok
        go_wp2_with fail
        refine (right_r2 _ A B ca cb a b x y (Kd.C_below HA.out HB.out) HCA.out (Kd.C_below HB0.out HB.out) HCB.out HLA.out HLB.out).mono ?_
        rintro e w8 ⟨rfl, hb3⟩
        replace HB := Aside0.mk (below_step HB.out hb3)
        clear hb3
        rw [HK.out]
        go_wp2_with fail
        refine (alive11_any _).mono ?_
        rintro e w9 ⟨rfl, hb3⟩
        replace HB := Aside0.mk (below_step HB.out hb3)
        clear hb3
        go_wp2_with fail
        go_ret
        exact ⟨rfl, HB.out⟩
      | true =>
        obtain ⟨g1, g2⟩ := N2.out.2 hok
        have HK := Aside0.mk hok
        rw [g1] at g2 ⊢
        have G2 := Aside0.mk g2
        obtain ⟨q, hq⟩ : ∃ q, windN x y (edgs a ++ edgs b) = q := ⟨_, rfl⟩
        rw [hq] at G2 ⊢
        clear hok g1 g2 hq
        cases o <;> cases o2
        case false.false =>
          have hqq := G2.out rfl
          rw [hqq]
          clear hqq
          go_wp2_with fail
          refine (right_r2 _ A B ca cb a b x y (Kd.C_below HA.out HB.out) HCA.out (Kd.C_below HB0.out HB.out) HCB.out HLA.out HLB.out).mono ?_
          rintro e w8 ⟨rfl, hb3⟩
          replace HB := Aside0.mk (below_step HB.out hb3)
          clear hb3
          rw [HK.out]
          go_wp2_with fail
          refine (alive11_any _).mono ?_
          rintro e w9 ⟨rfl, hb3⟩
          replace HB := Aside0.mk (below_step HB.out hb3)
          clear hb3
          go_wp2_with fail
          go_ret
          exact ⟨rfl, HB.out⟩
        all_goals
          go_wp2_with fail
          refine (right_r2 _ A B ca cb a b x y (Kd.C_below HA.out HB.out) HCA.out (Kd.C_below HB0.out HB.out) HCB.out HLA.out HLB.out).mono ?_
          rintro e w8 ⟨rfl, hb3⟩
          replace HB := Aside0.mk (below_step HB.out hb3)
          clear hb3
          rw [HK.out]
          go_wp2_with fail
          refine (alive11_any _).mono ?_
          rintro e w9 ⟨rfl, hb3⟩
          replace HB := Aside0.mk (below_step HB.out hb3)
          clear hb3
          go_wp2_with fail
          go_ret
          exact ⟨rfl, HB.out⟩

set_option maxHeartbeats 16000000 in
set_option maxRecDepth 100000 in
theorem turned_high
    (w : World) (A : Option Addr) (ca : Nat) (a : List S23) (hca : a.length ≤ ca) (hA : Kd.C k23 w A a.length a) (B : Option Addr) (cb : Nat) (b : List S23) (hcb : b.length ≤ cb) (hB : Kd.C k23 w B b.length b) (x y at_ : Int) (hla : a.length ≤ 100) (hlb : b.length ≤ 100) (h0 : 0 ≤ at_) (h1 : a.length ≤ at_) :
    Calls Try.prog 17 #[.slice A a.length ca, .slice B b.length cb, .agg #[.int .i64 x, .int .i64 y, .int .i64 at_]] w fun e w' => e = .returned (.bool true) ∧ Below w.heap.size w w' := by
  obtain ⟨n, hn⟩ : ∃ n, windN x y (edgs a) = n := ⟨_, rfl⟩
  obtain ⟨o, ho⟩ : ∃ o, windO x y (edgs a) = o := ⟨_, rfl⟩
  obtain ⟨p, hp⟩ : ∃ p, windN x y (edgs b) = p := ⟨_, rfl⟩
  obtain ⟨o2, ho2⟩ : ∃ o2, windO x y (edgs b) = o2 := ⟨_, rfl⟩
  have NA := Aside0.mk (And.intro hn ho)
  have NB := Aside0.mk (And.intro hp ho2)
  have NR := Aside0.mk (show windN x y (edgs a.reverse) = -n ∧ windO x y (edgs a.reverse) = o by rw [← hn, ← ho]; exact wind_rev x y a)
  have N2 := Aside0.mk (wind_two_rings x y (edgs a) (edgs b))
  rw [hn, ho, hp, ho2] at N2
  have nb := windN_bd x y (edgs a)
  have pb := windN_bd x y (edgs b)
  rw [hn, edgs_length] at nb
  rw [hp, edgs_length] at pb
  obtain ⟨nb1, nb2⟩ : -100 ≤ n ∧ n ≤ 100 := by omega
  obtain ⟨pb1, pb2⟩ : -100 ≤ p ∧ p ≤ 100 := by omega
  have hwn : IntKind.i64.wrap (-n) = -n := IntWalk.i64_in _ (by omega)
  have hwp : IntKind.i64.wrap (n + p) = n + p := IntWalk.i64_in _ (by omega)
  clear hn ho hp ho2 nb pb
  have hu72 := Try.underlying72
  have HA := Aside0.mk hA
  have HB0 := Aside0.mk hB
  have HCA := Aside0.mk hca
  have HCB := Aside0.mk hcb
  have HLA := Aside0.mk hla
  have HLB := Aside0.mk hlb
  have hd1 : decide (100 < (a.length : Int)) = false := decide_eq_false (by omega)
  have hd2 : decide (100 < (b.length : Int)) = false := decide_eq_false (by omega)
  clear hA hB hcb hlb
  go_enter Try.func17, Try.ntmps17
  go_wp2_with fail
  have hk := blk_new w (.cells #[.int .i64 x, .int .i64 y, .int .i64 at_] 72)
  have HW0 := Aside0.mk (below_alloc (Below.refl w.heap.size w) (.cells #[.int .i64 x, .int .i64 y, .int .i64 at_] 72))
  generalize w.alloc (.cells #[.int .i64 x, .int .i64 y, .int .i64 at_] 72) = W0 at hk HW0 ⊢
  obtain ⟨g, hg⟩ : ∃ g, w.heap.size = g := ⟨_, rfl⟩
  rw [hg] at hk ⊢
  have c0 := cell0 0 hk rfl; have c1 := cell0 1 hk rfl; have c2 := cell0 2 hk rfl
  clear hd1 hd2
  go_region_held3 (fun w' => Below W0.heap.size W0 w' ∧ w'.cell? ⟨g, 0, none⟩ = some (.int .i64 x) ∧ w'.cell? ⟨g, 1, none⟩ = some (.int .i64 y) ∧ w'.cell? ⟨g, 2, none⟩ = some (.int .i64 at_))
    (first | (exact ⟨below_drew1 (Below.refl _ _), (World.cell?_drew _ _).trans c0, (World.cell?_drew _ _).trans c1, (World.cell?_drew _ _).trans c2⟩) | (have hH := ‹Below _ _ _ ∧ _›; exact ⟨below_step hH.1 ‹Below _ _ _›, cell_on ‹Below _ _ _› hH.2.1, cell_on ‹Below _ _ _› hH.2.2.1, cell_on ‹Below _ _ _› hH.2.2.2⟩) | (have hH := ‹Below _ _ _ ∧ _›; exact ⟨pw_below_drewN hH.1 _, hH.2.1, hH.2.2.1, hH.2.2.2⟩))
    ((first
    | (fail)))
  have hh := (‹Below W0.heap.size W0 _ ∧ _›).1
  have HB := Aside0.mk (below_step HW0.out hh)
  clear hh c0 c1 c2 hk HW0
  rw [← hg]
  clear hg
  go_wp2_with fail
  go_loopw [10, 40] (fun v i wr => ∃ x0 : Int, i = .int .i64 x0 ∧ Aside0 (0 ≤ x0 ∧ x0 ≤ a.length) ∧ Aside0 (Kd.R k23 23 wr w.heap.size (fun _ => True) v (a.reverse.take x0.toNat)) ∧ Aside0 (Below w.heap.size w wr)) (fun _ i _ => a.length - (intOf i).toNat)
  case atStart => exact ⟨0, rfl, ⟨by omega, by omega⟩, ⟨Kd.R_nil _ _ _ _ _⟩, HB⟩
  case round =>
    obtain ⟨x0, rfl, HX, HO, HB'⟩ := hrel
    clear HB
    have HB := HB'
    clear HB'
    obtain ⟨hx0, hx1⟩ := HX.out
    clear HX
    by_cases hlt : x0 < (a.length : Int)
    · have c3b0 : decide (x0 < (a.length : Int)) = true := decide_eq_true hlt
      obtain ⟨ad, e1, g0, g1⟩ := at_T23 (Kd.C_below HA.out HB.out) ((a.length : Int) - 1 - x0) (by omega) (by omega)
      cases e1
      have p0 : 0 ≤ (a.length : Int) - 1 - x0 := by omega
      have p1 : (a.length : Int) - 1 - x0 < (a.length : Int) := by omega
      have hbs := Aside0.mk (below_size HB.out)
      go_wp2_with (first | ((with_reducible refine gate_builtin (b := .append) (xs := #[.tmp 43, .tmp 52]) rfl ?_); at_builtin; refine Kd.R_append k23 (w0 := w) w.heap.size rfl (.tmp 43) (.tmp 52) 47 23 (.agg #[(.int .i64 0), (.int .i64 0)]) 16 rfl Try.underlying47 info23r rfl (by decide) (by omega) _ (a.reverse.take x0.toNat) (⟨(rd_T23 a ((a.length : Int) - 1 - x0)).f0, (rd_T23 a ((a.length : Int) - 1 - x0)).f1⟩ : S23) [.int .i64 ((rd_T23 a ((a.length : Int) - 1 - x0)).f0), .int .i64 ((rd_T23 a ((a.length : Int) - 1 - x0)).f1)] (fun _ => True) (fun _ => False) rfl rfl (k23_mkM _ _ _ _) (fun _ hk => hk.elim) (fun _ _ => trivial) HO.out HB.out hbs.out ?aL ?_; (case aL => simp only [List.length_take, List.length_reverse]; omega); intro v1 w2 ho hb hg hat))
      go_roundw
      case rel =>
        refine ⟨x0 + 1, by go_num, ⟨by omega, by omega⟩, ⟨?_⟩, ⟨hb⟩⟩
        rw [← rev_step' a x0 hx0 hlt]
        exact ho
      case measure => simp [intOf]; omega
    · have c3b0 : decide (x0 < (a.length : Int)) = false := decide_eq_false hlt
      obtain rfl : x0 = a.length := by omega
      clear hx0 hx1 hlt
      have HBk0 := HO.out
      rw [show a.reverse.take ((a.length : Int)).toNat = a.reverse by rw [Int.toNat_natCast]; exact List.take_of_length_le (by simp)] at HBk0
      obtain ⟨A6, c6, hv, hc6, HBk1⟩ := Kd.R_reads HBk0
      have hlr : a.reverse.length = a.length := List.length_reverse
      rw [hlr] at hv hc6
      subst hv
      have HBk := Aside0.mk HBk1
      have HC6 := Aside0.mk hc6
      have HLR := Aside0.mk hlr
      clear HBk1 HBk0 HO hlr hc6
      have hat0 : decide (0 ≤ at_) = true := decide_eq_true h0
      have hat1 : decide (at_ < (a.length : Int)) = false := decide_eq_false (by omega)
      have HT := Aside0.mk (Kd.C_below HA.out HB.out)
      have NT := NA
      go_wp2_with fail
      refine (wind_r1 _ A a.length ca a x y rfl (Kd.C_below HA.out HB.out) HCA.out HLA.out).mono ?_
      rintro e w3 ⟨rfl, hb3⟩
      replace HB := Aside0.mk (below_step HB.out hb3); replace HBk := Aside0.mk (Kd.C_below HBk.out hb3); replace HT := Aside0.mk (Kd.C_below HT.out hb3)
      clear hb3
      rw [NA.out.1, NA.out.2]
      go_wp2_with fail
      refine (wind_r1 _ A6 a.length c6 a.reverse x y HLR.out HBk.out HC6.out HLA.out).mono ?_
      rintro e w4 ⟨rfl, hb3⟩
      replace HB := Aside0.mk (below_step HB.out hb3); replace HT := Aside0.mk (Kd.C_below HT.out hb3)
      clear hb3
      rw [NR.out.1, NR.out.2]
      go_wp2_with fail
      refine (wind_r1 _ A a.length ca a x y rfl HT.out HCA.out HLA.out).mono ?_
      rintro e w5 ⟨rfl, hb3⟩
      replace HB := Aside0.mk (below_step HB.out hb3)
      clear hb3
      rw [NT.out.1, NT.out.2]
      clear HT HBk
      go_wp2_with fail
      refine (wind_r1 _ B b.length cb b x y rfl (Kd.C_below HB0.out HB.out) HCB.out HLB.out).mono ?_
      rintro e w6 ⟨rfl, hb3⟩
      replace HB := Aside0.mk (below_step HB.out hb3)
      clear hb3
      rw [NB.out.1, NB.out.2]
      go_wp2_with fail
      refine (wind_r2 _ A B ca cb a b x y (Kd.C_below HA.out HB.out) HCA.out (Kd.C_below HB0.out HB.out) HCB.out HLA.out HLB.out).mono ?_
      rintro e w7 ⟨rfl, hb3⟩
      replace HB := Aside0.mk (below_step HB.out hb3)
      clear hb3
      cases hok : okAll x y (edgs a ++ edgs b) with
      | false =>
        rw [(N2.out.1 hok).1, (N2.out.1 hok).2]
        have HK := Aside0.mk hok
        clear hok
        go_wp2_with fail
        refine (right_r2 _ A B ca cb a b x y (Kd.C_below HA.out HB.out) HCA.out (Kd.C_below HB0.out HB.out) HCB.out HLA.out HLB.out).mono ?_
        rintro e w8 ⟨rfl, hb3⟩
        replace HB := Aside0.mk (below_step HB.out hb3)
        clear hb3
        rw [HK.out]
        go_wp2_with fail
        refine (alive11_any _).mono ?_
        rintro e w9 ⟨rfl, hb3⟩
        replace HB := Aside0.mk (below_step HB.out hb3)
        clear hb3
        go_wp2_with fail
        go_ret
        exact ⟨rfl, HB.out⟩
      | true =>
        obtain ⟨g1, g2⟩ := N2.out.2 hok
        have HK := Aside0.mk hok
        rw [g1] at g2 ⊢
        have G2 := Aside0.mk g2
        obtain ⟨q, hq⟩ : ∃ q, windN x y (edgs a ++ edgs b) = q := ⟨_, rfl⟩
        rw [hq] at G2 ⊢
        clear hok g1 g2 hq
        cases o <;> cases o2
        case false.false =>
          have hqq := G2.out rfl
          rw [hqq]
          clear hqq
          go_wp2_with fail
          refine (right_r2 _ A B ca cb a b x y (Kd.C_below HA.out HB.out) HCA.out (Kd.C_below HB0.out HB.out) HCB.out HLA.out HLB.out).mono ?_
          rintro e w8 ⟨rfl, hb3⟩
          replace HB := Aside0.mk (below_step HB.out hb3)
          clear hb3
          rw [HK.out]
          go_wp2_with fail
          refine (alive11_any _).mono ?_
          rintro e w9 ⟨rfl, hb3⟩
          replace HB := Aside0.mk (below_step HB.out hb3)
          clear hb3
          go_wp2_with fail
          go_ret
          exact ⟨rfl, HB.out⟩
        all_goals
          go_wp2_with fail
          refine (right_r2 _ A B ca cb a b x y (Kd.C_below HA.out HB.out) HCA.out (Kd.C_below HB0.out HB.out) HCB.out HLA.out HLB.out).mono ?_
          rintro e w8 ⟨rfl, hb3⟩
          replace HB := Aside0.mk (below_step HB.out hb3)
          clear hb3
          rw [HK.out]
          go_wp2_with fail
          refine (alive11_any _).mono ?_
          rintro e w9 ⟨rfl, hb3⟩
          replace HB := Aside0.mk (below_step HB.out hb3)
          clear hb3
          go_wp2_with fail
          go_ret
          exact ⟨rfl, HB.out⟩

set_option maxHeartbeats 4000000 in
set_option maxRecDepth 100000 in
theorem turned_big
    (w : World) (A : Option Addr) (ca : Nat) (a : List S23) (hca : a.length ≤ ca) (hA : Kd.C k23 w A a.length a) (B : Option Addr) (cb : Nat) (b : List S23) (hcb : b.length ≤ cb) (hB : Kd.C k23 w B b.length b) (x y at_ : Int) (h : 100 < a.length ∨ (a.length ≤ 100 ∧ 100 < b.length)) :
    Calls Try.prog 17 #[.slice A a.length ca, .slice B b.length cb, .agg #[.int .i64 x, .int .i64 y, .int .i64 at_]] w fun e w' => e = .returned (.bool true) ∧ Below w.heap.size w w' := by
  clear hA hB hca hcb
  rcases h with h | ⟨h, h'⟩
  · have hd1 : decide (100 < (a.length : Int)) = true := decide_eq_true (by omega)
    clear h
    go_enter Try.func17, Try.ntmps17
    go_wp2_with fail
    refine (alive11_any _).mono ?_
    rintro e w1 ⟨rfl, hb⟩
    go_wp2_with fail
    go_ret
    exact ⟨rfl, below_step (below_alloc (Below.refl w.heap.size w) _) hb⟩
  · have hd1 : decide (100 < (a.length : Int)) = false := decide_eq_false (by omega)
    have hd2 : decide (100 < (b.length : Int)) = true := decide_eq_true (by omega)
    clear h h'
    go_enter Try.func17, Try.ntmps17
    go_wp2_with fail
    refine (alive11_any _).mono ?_
    rintro e w1 ⟨rfl, hb⟩
    go_wp2_with fail
    go_ret
    exact ⟨rfl, below_step (below_alloc (Below.refl w.heap.size w) _) hb⟩

theorem inputTurned_walk
    (w : World) (A : Option Addr) (ca : Nat) (a : List S23) (hca : a.length ≤ ca) (hA : Kd.C k23 w A a.length a) (B : Option Addr) (cb : Nat) (b : List S23) (hcb : b.length ≤ cb) (hB : Kd.C k23 w B b.length b) (x y at_ : Int) :
    Calls Try.prog 17 #[.slice A a.length ca, .slice B b.length cb, .agg #[.int .i64 x, .int .i64 y, .int .i64 at_]] w fun e w' => e = .returned (.bool true) ∧ Below w.heap.size w w' := by
  by_cases h1 : a.length ≤ 100
  · by_cases h2 : b.length ≤ 100
    · by_cases h3 : 0 ≤ at_
      · by_cases h4 : at_ < a.length
        · exact turned_in w A ca a hca hA B cb b hcb hB x y at_ h1 h2 h3 h4
        · exact turned_high w A ca a hca hA B cb b hcb hB x y at_ h1 h2 h3 (by omega)
      · exact turned_low w A ca a hca hA B cb b hcb hB x y at_ h1 h2 (by omega)
    · exact turned_big w A ca a hca hA B cb b hcb hB x y at_ (Or.inr ⟨h1, by omega⟩)
  · exact turned_big w A ca a hca hA B cb b hcb hB x y at_ (Or.inl (by omega))
end Go.Proofs.Ytpfgjagpaddcpaa.Own
