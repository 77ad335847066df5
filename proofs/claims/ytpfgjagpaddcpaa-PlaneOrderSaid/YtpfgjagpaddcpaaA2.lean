import Derived.Test.YtpfgjagpaddcpaaX1
import Derived.Test.YtpfgjagpaddcpaaX3
import Derived.Test.YtpfgjagpaddcpaaX4
import Derived.Test.YtpfgjagpaddcpaaA1
/-! The plane's functions as plain functions of numbers, and the triangle that each law of the plane asks for. -/
namespace Go.Proofs.Ytpfgjagpaddcpaa.Own
open Go.RowKit Go.Proofs.YtpfgjagpaddcpaaW.PrintWords Go.Proofs.YtpfgjagpaddcpaaW.PrintLast Go.Proofs.YtpfgjagpaddcpaaW.PrintMore
open Go.Proofs.Ytpfgjagpaddcpaa.X
set_option linter.unusedVariables false
set_option linter.unusedSimpArgs false

def sgn (n : Int) : Int := if n < 0 then -1 else if 0 < n then 1 else 0

theorem compare_f (a b : Int) : cmp_Compare_int.f a b = some (if a < b then -1 else if b < a then 1 else 0) := by
  simp only [cmp_Compare_int.f, cmp_isNaN_int.f, Option.bind_some, bne_self_eq_false]
  simp only [Bool.false_eq_true, if_false]
  split
  · rfl
  · split <;> rfl

theorem turn_f (ox oy ax ay bx by_ : Int) : plane_Turn.f ox oy ax ay bx by_ = some (sgn (crossB ox oy ax ay bx by_)) := by
  simp only [plane_Turn.f, cross_f, Option.bind_some, compare_f]
  rfl

theorem turn_any (ox oy ax ay bx by_ : Int) (w : World) : Calls Try.prog 23 #[ptV ox oy, ptV ax ay, ptV bx by_] w fun e w' => e = .returned (.int .i64 (sgn (crossB ox oy ax ay bx by_))) ∧ Below w.heap.size w w' :=
  plane_Turn.calls ox oy ax ay bx by_ _ w (turn_f ox oy ax ay bx by_)

abbrev boxV (a b c d : Int) : Value := .agg #[.int .i64 a, .int .i64 b, .int .i64 c, .int .i64 d]

def holdsB (lx ly hx hy px py : Int) : Bool := decide (lx ≤ px ∧ px ≤ hx ∧ ly ≤ py ∧ py ≤ hy)

theorem holds_f (lx ly hx hy px py : Int) : plane_Holds.f lx ly hx hy px py = some (holdsB lx ly hx hy px py) := by
  unfold plane_Holds.f holdsB
  by_cases h1 : px ≥ lx <;> by_cases h2 : px ≤ hx <;> by_cases h3 : py ≥ ly <;> by_cases h4 : py ≤ hy <;> simp [h1, h2, h3, h4] <;> omega

theorem holds_any (lx ly hx hy px py : Int) (w : World) : Calls Try.prog 28 #[boxV lx ly hx hy, ptV px py] w fun e w' => e = .returned (.bool (holdsB lx ly hx hy px py)) ∧ Below w.heap.size w w' :=
  plane_Holds.calls lx ly hx hy px py _ w (holds_f lx ly hx hy px py)

theorem around_any (ax ay bx by_ : Int) (w : World) : Calls Try.prog 29 #[ptV ax ay, ptV bx by_] w fun e w' => e = .returned (boxV (mn ax bx) (mn ay by_) (mx ax bx) (mx ay by_)) ∧ Below w.heap.size w w' :=
  plane_Around.calls ax ay bx by_ _ _ _ _ w rfl

def onB (px py ax ay bx by_ : Int) : Bool :=
  rightB px py && (rightB ax ay && (rightB bx by_ && (decide (sgn (crossB ax ay bx by_ px py) = 0) && holdsB (mn ax bx) (mn ay by_) (mx ax bx) (mx ay by_) px py)))

theorem on_f (px py ax ay bx by_ : Int) : plane_On.f px py ax ay bx by_ = some (onB px py ax ay bx by_) := by
  simp only [plane_On.f, right_f, turn_f, plane_Around.f, holds_f, Option.bind_some, onB]
  by_cases h : sgn (crossB ax ay bx by_ px py) = 0 <;> cases rightB px py <;> cases rightB ax ay <;> cases rightB bx by_ <;> simp [h]

theorem on_any (px py ax ay bx by_ : Int) (w : World) : Calls Try.prog 26 #[ptV px py, ptV ax ay, ptV bx by_] w fun e w' => e = .returned (.bool (onB px py ax ay bx by_)) ∧ Below w.heap.size w w' :=
  plane_On.calls px py ax ay bx by_ _ w (on_f px py ax ay bx by_)

def meetB (a b c d e f g h : Int) : Bool := decide (mx a e ≤ mn c g ∧ mx b f ≤ mn d h)

theorem meet_any (a b c d e f g h : Int) (w : World) : Calls Try.prog 40 #[boxV a b c d, boxV e f g h] w fun ed w' => ed = .returned (.bool (meetB a b c d e f g h)) ∧ Below w.heap.size w w' := by
  refine plane_Meet.calls a b c d e f g h _ w ?_
  unfold plane_Meet.f meetB
  by_cases h1 : mx a e ≤ mn c g <;> simp [h1]

def cmpB (ax ay bx by_ : Int) : Int := if ax < bx then -1 else if bx < ax then 1 else if ay < by_ then -1 else if by_ < ay then 1 else 0

theorem cmp_f (ax ay bx by_ : Int) : plane_Cmp.f 3 ax ay bx by_ = some (cmpB ax ay bx by_) := by
  have h0 : ∀ a b : Int, cmp_Or_int.f 3 [a, b] = some (if a = 0 then (if b = 0 then 0 else b) else a) := by
    intro a b
    by_cases ha : a = 0 <;> by_cases hb : b = 0 <;> simp [cmp_Or_int.f, cmp_Or_int.l0, rd, wrap64, ha, hb]
  simp only [plane_Cmp.f, compare_f, Option.bind_some, h0, cmpB]
  by_cases h1 : ax < bx <;> by_cases h2 : bx < ax <;> by_cases h3 : ay < by_ <;> by_cases h4 : by_ < ay <;> simp [h1, h2, h3, h4]

theorem cmp_any (ax ay bx by_ : Int) (w : World) : Calls Try.prog 41 #[ptV ax ay, ptV bx by_] w fun e w' => e = .returned (.int .i64 (cmpB ax ay bx by_)) ∧ Below w.heap.size w w' :=
  plane_Cmp.calls 3 ax ay bx by_ _ w (cmp_f ax ay bx by_)

theorem eqA33 (d : Nat) (w : World) (x0 y0 : Int) (x1 y1 : Int) (x2 y2 : Int) (x3 y3 : Int) :
    (Op.equalIn (d + 3) 33 (.agg #[.int .i64 x0, .int .i64 x1, .int .i64 x2, .int .i64 x3]) (.agg #[.int .i64 y0, .int .i64 y1, .int .i64 y2, .int .i64 y3])).run Try.prog w = .ok ((x0 == y0 && (x1 == y1)) && ((x2 == y2 && (x3 == y3)))) w := by
  refine eqA_of Try.underlying33 (by kernel_rfl) ?_
  refine eqf_cons (by rfl) (by go_simp) (by go_simp) (eqA23 (d + 0) w _ _ _ _) ?_
  exact eqf_last (by rfl) (by go_simp) (by go_simp) (eqA23 (d + 0) w _ _ _ _)

def samePt (l m : List S23) (j : Nat) : Bool := (l.getD j z23).f0 == (m.getD j z23).f0 && (l.getD j z23).f1 == (m.getD j z23).f1

def eqPts (l m : List S23) : Bool := decide (l.length = m.length ∧ ∀ j, j < l.length → samePt l m j = true)

theorem equal_l0 (l m : List S23) (hl : l.length = m.length) (hm : l.length ≤ 9223372036854775807) (d : Nat) : ∀ (k i : Nat), i + d = l.length → d < k →
    ∃ b, api_Point_61.l0 k l m l.length i = some b ∧ (b = true ↔ ∀ j, i ≤ j → j < l.length → samePt l m j = true) := by
  induction d with
  | zero =>
    intro k i hi hk
    obtain ⟨k, rfl⟩ : ∃ q, k = q + 1 := ⟨k - 1, by omega⟩
    exact ⟨true, by simp only [api_Point_61.l0]; rw [if_neg (by omega)], by simp; intro j h1 h2; omega⟩
  | succ d ih =>
    intro k i hi hk
    obtain ⟨k, rfl⟩ : ∃ q, k = q + 1 := ⟨k - 1, by omega⟩
    obtain ⟨b, hb, hb2⟩ := ih k (i + 1) (by omega) (by omega)
    have hw : wrap64 ((i : Int) + 1) = ((i + 1 : Nat) : Int) := by unfold wrap64; omega
    cases hs : samePt l m i with
    | false =>
      refine ⟨false, ?_, ?_⟩
      · simp only [api_Point_61.l0]
        rw [if_pos (by omega), if_pos (by omega), if_pos (by omega), if_pos (by omega), if_pos]
        unfold samePt at hs
        unfold rd_T23
        simp only [Int.toNat_natCast]
        revert hs
        cases (l.getD i z23).f0 == (m.getD i z23).f0 <;> cases (l.getD i z23).f1 == (m.getD i z23).f1 <;> simp
      · constructor
        · intro h; cases h
        · intro h; rw [h i (Nat.le_refl _) (by omega)] at hs; cases hs
    | true =>
      refine ⟨b, ?_, ?_⟩
      · simp only [api_Point_61.l0]
        rw [if_pos (by omega), if_pos (by omega), if_pos (by omega), if_pos (by omega), if_neg, hw]
        · exact hb
        · unfold samePt at hs
          unfold rd_T23
          simp only [Int.toNat_natCast]
          revert hs
          cases (l.getD i z23).f0 == (m.getD i z23).f0 <;> cases (l.getD i z23).f1 == (m.getD i z23).f1 <;> simp
      · rw [hb2]
        constructor
        · intro h j h1 h2
          by_cases hj : j = i
          · rw [hj]; exact hs
          · exact h j (by omega) h2
        · intro h j h1 h2
          exact h j (by omega) h2

theorem equal_f (l m : List S23) (hm : l.length ≤ 9223372036854775807) : plane_Equal.f (l.length + 1) l m = some (eqPts l m) := by
  unfold plane_Equal.f api_Point_61.f eqPts
  by_cases hl : l.length = m.length
  · obtain ⟨b, hb, hb2⟩ := equal_l0 l m hl hm l.length (l.length + 1) 0 (by omega) (by omega)
    rw [if_pos (by omega)]
    have hb' : api_Point_61.l0 (l.length + 1) l m l.length 0 = some b := hb
    rw [hb']
    simp only [Option.bind_some, Option.some.injEq]
    rw [Bool.eq_iff_iff, hb2, decide_eq_true_iff]
    exact ⟨fun h => ⟨hl, fun j hj => h j (Nat.zero_le _) hj⟩, fun h j _ hj => h.2 j hj⟩
  · rw [if_neg (by omega)]
    simp [hl]

theorem equal_any (A B : Option Addr) (c d : Nat) (l m : List S23) (w : World) (hr : Kd.C k23 w A l.length l) (hc : l.length ≤ c) (hs : Kd.C k23 w B m.length m) (hd : m.length ≤ d) (hm : l.length ≤ 9223372036854775807) :
    Calls Try.prog 44 #[.slice A l.length c, .slice B m.length d] w fun e w' => e = .returned (.bool (eqPts l m)) ∧ Below w.heap.size w w' :=
  (plane_Equal.calls (l.length + 1) A c l B d m _ w hr hc hs hd (equal_f l m hm)).mono fun e w' ⟨h1, h2⟩ => ⟨h1, by obtain ⟨n, rfl⟩ := h2.out; exact pw_below_drewN (Below.refl _ _) n⟩

theorem tri_start {w w1 : World} (hb : Below (((w.alloc (.cells #[.int .i64 0, .int .i64 0] 23)).alloc (.cells #[.int .i64 2, .int .i64 0] 23)).alloc (.cells #[.int .i64 1, .int .i64 3] 23)).heap.size (((w.alloc (.cells #[.int .i64 0, .int .i64 0] 23)).alloc (.cells #[.int .i64 2, .int .i64 0] 23)).alloc (.cells #[.int .i64 1, .int .i64 3] 23)) w1) :
    w1.heap[w.heap.size]? = some (.cells #[.int .i64 0, .int .i64 0] 23 (0, 0)) ∧ w1.heap[w.heap.size + 1]? = some (.cells #[.int .i64 2, .int .i64 0] 23 (0, 0)) ∧ w1.heap[w.heap.size + 1 + 1]? = some (.cells #[.int .i64 1, .int .i64 3] 23 (0, 0)) ∧ Below w.heap.size w w1 := by
  have n0 := blk_below (blk_alloc (blk_alloc (blk_new w (.cells #[.int .i64 0, .int .i64 0] 23)) (.cells #[.int .i64 2, .int .i64 0] 23)) (.cells #[.int .i64 1, .int .i64 3] 23)) hb
  have n1 := blk_below (blk_alloc (blk_new (w.alloc (.cells #[.int .i64 0, .int .i64 0] 23)) (.cells #[.int .i64 2, .int .i64 0] 23)) (.cells #[.int .i64 1, .int .i64 3] 23)) hb
  have n2 := blk_below (blk_new ((w.alloc (.cells #[.int .i64 0, .int .i64 0] 23)).alloc (.cells #[.int .i64 2, .int .i64 0] 23)) (.cells #[.int .i64 1, .int .i64 3] 23)) hb
  simp only [World.size_alloc] at n1 n2
  exact ⟨n0, n1, n2, below_then (below_alloc (below_alloc (below_alloc (Below.refl w.heap.size w) _) _) _) (by simp; omega) hb⟩

/-- The cells of a row of points. -/
def flat (l : List S23) : List Value := l.flatMap fun p => [.int .i64 p.f0, .int .i64 p.f1]

theorem flat_get (l : List S23) : ∀ (j : Nat) (p : S23), l[j]? = some p → (flat l)[j * 2]? = some (.int .i64 p.f0) ∧ (flat l)[j * 2 + 1]? = some (.int .i64 p.f1) := by
  induction l with
  | nil => intro j p h; simp at h
  | cons q l ih =>
    intro j p h
    cases j with
    | zero =>
      simp at h
      subst h
      exact ⟨rfl, rfl⟩
    | succ j =>
      have h2 := ih j p (by simpa using h)
      have e : (j + 1) * 2 = j * 2 + 1 + 1 := by omega
      rw [e]
      exact h2

theorem addr_add (b n : Nat) : (⟨b, 0, none⟩ : Addr).add n = ⟨b, n, none⟩ := by
  unfold Addr.add
  split
  · rename_i h; rw [h]
  · simp

/-- A block that holds points, as a row of points. -/
theorem C_block {w : World} {b : Nat} {cs : Array Value} (l : List S23) (h : w.heap[b]? = some (.cells cs 23 (0, 0))) (hcs : cs.toList = flat l) (hn : l.length ≤ 9223372036854775807) : Kd.C k23 w (some ⟨b, 0, none⟩) l.length l := by
  refine ⟨rfl, hn, fun _ => ⟨_, rfl, fun j p hj => ⟨[.int .i64 p.f0, .int .i64 p.f1], rfl, k23_mk w p, fun i u hu => ?_⟩⟩⟩
  obtain ⟨h0, h1⟩ := flat_get l j p hj
  rw [addr_add]
  show w.cell? ⟨b, j * 2 + i, none⟩ = some u
  rw [blk_cell h, ← Array.getElem?_toList, hcs]
  match i, hu with
  | 0, hu => simp at hu; subst hu; exact h0
  | 1, hu => simp at hu; subst hu; exact h1
  | i + 2, hu => simp at hu

theorem cell0 {W : World} {b t : Nat} {cs : Array Value} {v : Value} (j : Nat) (h : W.heap[b]? = some (.cells cs t (0, 0))) (e : cs[j]? = some v) : W.cell? ⟨b, j, none⟩ = some v := (blk_cell h j).trans e

attribute [local go_sem high] eqA23 eqA33

set_option maxHeartbeats 4000000 in
set_option maxRecDepth 100000 in
theorem alive_any (w : World) : Calls Try.prog 19 #[] w fun e w' => e = .returned (.bool true) ∧ Below w.heap.size w w' := by
  have hu23 := Try.underlying23
  have hu33 := Try.underlying33
  go_enter Try.func19, Try.ntmps19
  go_wp2_with fail
  refine (around_any _ _ _ _ _).mono ?_
  rintro e w1 ⟨rfl, hb⟩
  obtain ⟨m0, m1, m2, HB0⟩ := tri_start hb
  clear hb
  have k0 := Aside0.mk m0; have k1 := Aside0.mk m1; have k2 := Aside0.mk m2; have HB := Aside0.mk HB0
  clear m0 m1 m2 HB0
  rw [show boxV (mn 1 2) (mn 3 0) (mx 1 2) (mx 3 0) = .agg #[.int .i64 1, .int .i64 0, .int .i64 2, .int .i64 3] from rfl]
  have q00 := cell0 0 k0.out rfl; have q01 := cell0 1 k0.out rfl; have q10 := cell0 0 k1.out rfl; have q11 := cell0 1 k1.out rfl; have q20 := cell0 0 k2.out rfl; have q21 := cell0 1 k2.out rfl
  have l0 := blk_lt k0.out; have l1 := blk_lt k1.out; have l2 := blk_lt k2.out
  have e0 := Nat.ne_of_lt l0; have e1 := Nat.ne_of_lt l1; have e2 := Nat.ne_of_lt l2
  go_wp2_with fail
  refine (cross_any _ _ _ _ _ _ _).mono ?_
  rintro e w2 ⟨rfl, hb⟩
  rw [show crossB 0 0 2 0 1 3 = 6 from by decide +kernel]
  have m0 := blk_below (blk_alloc k0.out _) hb; have m1 := blk_below (blk_alloc k1.out _) hb; have m2 := blk_below (blk_alloc k2.out _) hb; have m3 := blk_below (blk_new w1 _) hb; have m4 := below_step (below_alloc HB.out _) hb
  clear hb k0 k1 k2 HB q00 q01 q10 q11 q20 q21 l0 l1 l2 e0 e1 e2
  generalize w1.heap.size = g at m3 ⊢
  have k0 := Aside0.mk m0; have k1 := Aside0.mk m1; have k2 := Aside0.mk m2; have k3 := Aside0.mk m3; have HB := Aside0.mk m4
  clear m0 m1 m2 m3 m4
  have q00 := cell0 0 k0.out rfl; have q01 := cell0 1 k0.out rfl; have q10 := cell0 0 k1.out rfl; have q11 := cell0 1 k1.out rfl; have q20 := cell0 0 k2.out rfl; have q21 := cell0 1 k2.out rfl
  have l0 := blk_lt k0.out; have l1 := blk_lt k1.out; have l2 := blk_lt k2.out; have l3 := blk_lt k3.out
  have e0 := Nat.ne_of_lt l0; have e1 := Nat.ne_of_lt l1; have e2 := Nat.ne_of_lt l2; have e3 := Nat.ne_of_lt l3
  have q30 := cell0 0 k3.out rfl; have q31 := cell0 1 k3.out rfl; have q32 := cell0 2 k3.out rfl; have q33 := cell0 3 k3.out rfl
  go_wp2_with fail
  refine (turn_any _ _ _ _ _ _ _).mono ?_
  rintro e w3 ⟨rfl, hb⟩
  rw [show sgn (crossB 0 0 1 3 2 0) = -1 from by decide +kernel]
  have m0 := blk_below k0.out hb; have m1 := blk_below k1.out hb; have m2 := blk_below k2.out hb; have m3 := blk_below k3.out hb; have m4 := below_step HB.out hb
  clear hb k0 k1 k2 k3 HB q00 q01 q10 q11 q20 q21 q30 q31 q32 q33 e0 e1 e2 e3 l0 l1 l2 l3
  have k0 := Aside0.mk m0; have k1 := Aside0.mk m1; have k2 := Aside0.mk m2; have k3 := Aside0.mk m3; have HB := Aside0.mk m4
  clear m0 m1 m2 m3 m4
  have q00 := cell0 0 k0.out rfl; have q01 := cell0 1 k0.out rfl; have q10 := cell0 0 k1.out rfl; have q11 := cell0 1 k1.out rfl; have q20 := cell0 0 k2.out rfl; have q21 := cell0 1 k2.out rfl
  have l0 := blk_lt k0.out; have l1 := blk_lt k1.out; have l2 := blk_lt k2.out; have l3 := blk_lt k3.out
  have e0 := Nat.ne_of_lt l0; have e1 := Nat.ne_of_lt l1; have e2 := Nat.ne_of_lt l2; have e3 := Nat.ne_of_lt l3
  have q30 := cell0 0 k3.out rfl; have q31 := cell0 1 k3.out rfl; have q32 := cell0 2 k3.out rfl; have q33 := cell0 3 k3.out rfl
  go_wp2_with fail
  refine (holds_any _ _ _ _ _ _ _).mono ?_
  rintro e w4 ⟨rfl, hb⟩
  rw [show holdsB 1 0 2 3 2 0 = true from by decide +kernel]
  have m0 := blk_below k0.out hb; have m1 := blk_below k1.out hb; have m2 := blk_below k2.out hb; have m3 := blk_below k3.out hb; have m4 := below_step HB.out hb
  clear hb k0 k1 k2 k3 HB q00 q01 q10 q11 q20 q21 q30 q31 q32 q33 e0 e1 e2 e3 l0 l1 l2 l3
  have k0 := Aside0.mk m0; have k1 := Aside0.mk m1; have k2 := Aside0.mk m2; have k3 := Aside0.mk m3; have HB := Aside0.mk m4
  clear m0 m1 m2 m3 m4
  have q00 := cell0 0 k0.out rfl; have q01 := cell0 1 k0.out rfl; have q10 := cell0 0 k1.out rfl; have q11 := cell0 1 k1.out rfl; have q20 := cell0 0 k2.out rfl; have q21 := cell0 1 k2.out rfl
  have l0 := blk_lt k0.out; have l1 := blk_lt k1.out; have l2 := blk_lt k2.out; have l3 := blk_lt k3.out
  have e0 := Nat.ne_of_lt l0; have e1 := Nat.ne_of_lt l1; have e2 := Nat.ne_of_lt l2; have e3 := Nat.ne_of_lt l3
  have q30 := cell0 0 k3.out rfl; have q31 := cell0 1 k3.out rfl; have q32 := cell0 2 k3.out rfl; have q33 := cell0 3 k3.out rfl
  go_wp2_with fail
  refine (holds_any _ _ _ _ _ _ _).mono ?_
  rintro e w5 ⟨rfl, hb⟩
  rw [show holdsB 1 0 2 3 0 0 = false from by decide +kernel]
  have m0 := blk_below k0.out hb; have m1 := blk_below k1.out hb; have m2 := blk_below k2.out hb; have m3 := blk_below k3.out hb; have m4 := below_step HB.out hb
  clear hb k0 k1 k2 k3 HB q00 q01 q10 q11 q20 q21 q30 q31 q32 q33 e0 e1 e2 e3 l0 l1 l2 l3
  have k0 := Aside0.mk m0; have k1 := Aside0.mk m1; have k2 := Aside0.mk m2; have k3 := Aside0.mk m3; have HB := Aside0.mk m4
  clear m0 m1 m2 m3 m4
  have q00 := cell0 0 k0.out rfl; have q01 := cell0 1 k0.out rfl; have q10 := cell0 0 k1.out rfl; have q11 := cell0 1 k1.out rfl; have q20 := cell0 0 k2.out rfl; have q21 := cell0 1 k2.out rfl
  have l0 := blk_lt k0.out; have l1 := blk_lt k1.out; have l2 := blk_lt k2.out; have l3 := blk_lt k3.out
  have e0 := Nat.ne_of_lt l0; have e1 := Nat.ne_of_lt l1; have e2 := Nat.ne_of_lt l2; have e3 := Nat.ne_of_lt l3
  have q30 := cell0 0 k3.out rfl; have q31 := cell0 1 k3.out rfl; have q32 := cell0 2 k3.out rfl; have q33 := cell0 3 k3.out rfl
  go_wp2_with fail
  refine (meet_any _ _ _ _ _ _ _ _ _).mono ?_
  rintro e w6 ⟨rfl, hb⟩
  rw [show meetB 1 0 2 3 1 0 2 3 = true from by decide +kernel]
  have m0 := blk_below k0.out hb; have m1 := blk_below k1.out hb; have m2 := blk_below k2.out hb; have m3 := blk_below k3.out hb; have m4 := below_step HB.out hb
  clear hb k0 k1 k2 k3 HB q00 q01 q10 q11 q20 q21 q30 q31 q32 q33 e0 e1 e2 e3 l0 l1 l2 l3
  have k0 := Aside0.mk m0; have k1 := Aside0.mk m1; have k2 := Aside0.mk m2; have k3 := Aside0.mk m3; have HB := Aside0.mk m4
  clear m0 m1 m2 m3 m4
  have q00 := cell0 0 k0.out rfl; have q01 := cell0 1 k0.out rfl; have q10 := cell0 0 k1.out rfl; have q11 := cell0 1 k1.out rfl; have q20 := cell0 0 k2.out rfl; have q21 := cell0 1 k2.out rfl
  have l0 := blk_lt k0.out; have l1 := blk_lt k1.out; have l2 := blk_lt k2.out; have l3 := blk_lt k3.out
  have e0 := Nat.ne_of_lt l0; have e1 := Nat.ne_of_lt l1; have e2 := Nat.ne_of_lt l2; have e3 := Nat.ne_of_lt l3
  have q30 := cell0 0 k3.out rfl; have q31 := cell0 1 k3.out rfl; have q32 := cell0 2 k3.out rfl; have q33 := cell0 3 k3.out rfl
  go_wp2_with fail
  refine (on_any _ _ _ _ _ _ _).mono ?_
  rintro e w7 ⟨rfl, hb⟩
  rw [show onB 1 0 0 0 2 0 = true from by decide +kernel]
  have m0 := blk_below k0.out hb; have m1 := blk_below k1.out hb; have m2 := blk_below k2.out hb; have m3 := blk_below k3.out hb; have m4 := below_step HB.out hb
  clear hb k0 k1 k2 k3 HB q00 q01 q10 q11 q20 q21 q30 q31 q32 q33 e0 e1 e2 e3 l0 l1 l2 l3
  have k0 := Aside0.mk m0; have k1 := Aside0.mk m1; have k2 := Aside0.mk m2; have k3 := Aside0.mk m3; have HB := Aside0.mk m4
  clear m0 m1 m2 m3 m4
  have q00 := cell0 0 k0.out rfl; have q01 := cell0 1 k0.out rfl; have q10 := cell0 0 k1.out rfl; have q11 := cell0 1 k1.out rfl; have q20 := cell0 0 k2.out rfl; have q21 := cell0 1 k2.out rfl
  have l0 := blk_lt k0.out; have l1 := blk_lt k1.out; have l2 := blk_lt k2.out; have l3 := blk_lt k3.out
  have e0 := Nat.ne_of_lt l0; have e1 := Nat.ne_of_lt l1; have e2 := Nat.ne_of_lt l2; have e3 := Nat.ne_of_lt l3
  have q30 := cell0 0 k3.out rfl; have q31 := cell0 1 k3.out rfl; have q32 := cell0 2 k3.out rfl; have q33 := cell0 3 k3.out rfl
  go_wp2_with fail
  refine (cmp_any _ _ _ _ _).mono ?_
  rintro e w8 ⟨rfl, hb⟩
  rw [show cmpB 0 0 2 0 = -1 from by decide +kernel]
  have m0 := blk_below k0.out hb; have m1 := blk_below k1.out hb; have m2 := blk_below k2.out hb; have m3 := blk_below k3.out hb; have m4 := below_step HB.out hb
  clear hb k0 k1 k2 k3 HB q00 q01 q10 q11 q20 q21 q30 q31 q32 q33 e0 e1 e2 e3 l0 l1 l2 l3
  have k0 := Aside0.mk m0; have k1 := Aside0.mk m1; have k2 := Aside0.mk m2; have k3 := Aside0.mk m3; have HB := Aside0.mk m4
  clear m0 m1 m2 m3 m4
  have q00 := cell0 0 k0.out rfl; have q01 := cell0 1 k0.out rfl; have q10 := cell0 0 k1.out rfl; have q11 := cell0 1 k1.out rfl; have q20 := cell0 0 k2.out rfl; have q21 := cell0 1 k2.out rfl
  have l0 := blk_lt k0.out; have l1 := blk_lt k1.out; have l2 := blk_lt k2.out; have l3 := blk_lt k3.out
  have e0 := Nat.ne_of_lt l0; have e1 := Nat.ne_of_lt l1; have e2 := Nat.ne_of_lt l2; have e3 := Nat.ne_of_lt l3
  have q30 := cell0 0 k3.out rfl; have q31 := cell0 1 k3.out rfl; have q32 := cell0 2 k3.out rfl; have q33 := cell0 3 k3.out rfl
  go_wp2_with fail
  have z0 := C_block [⟨0, 0⟩, ⟨2, 0⟩, ⟨1, 3⟩] (blk_new w8 (.cells #[.int .i64 0, .int .i64 0, .int .i64 2, .int .i64 0, .int .i64 1, .int .i64 3] 23)) rfl (by decide)
  refine (area_any (some ⟨w8.heap.size, 0, none⟩) 3 [⟨0, 0⟩, ⟨2, 0⟩, ⟨1, 3⟩] _ z0 (by decide) (by decide)).mono ?_
  rintro e w9 ⟨rfl, hb⟩
  rw [show areaB [⟨0, 0⟩, ⟨2, 0⟩, ⟨1, 3⟩] = 6 from by decide +kernel]
  replace hb := below_step (below_alloc (Below.refl w8.heap.size w8) _) hb
  clear z0
  have m0 := blk_below k0.out hb; have m1 := blk_below k1.out hb; have m2 := blk_below k2.out hb; have m3 := blk_below k3.out hb; have m4 := below_step HB.out hb
  clear hb k0 k1 k2 k3 HB q00 q01 q10 q11 q20 q21 q30 q31 q32 q33 e0 e1 e2 e3 l0 l1 l2 l3
  have k0 := Aside0.mk m0; have k1 := Aside0.mk m1; have k2 := Aside0.mk m2; have k3 := Aside0.mk m3; have HB := Aside0.mk m4
  clear m0 m1 m2 m3 m4
  have q00 := cell0 0 k0.out rfl; have q01 := cell0 1 k0.out rfl; have q10 := cell0 0 k1.out rfl; have q11 := cell0 1 k1.out rfl; have q20 := cell0 0 k2.out rfl; have q21 := cell0 1 k2.out rfl
  have l0 := blk_lt k0.out; have l1 := blk_lt k1.out; have l2 := blk_lt k2.out; have l3 := blk_lt k3.out
  have e0 := Nat.ne_of_lt l0; have e1 := Nat.ne_of_lt l1; have e2 := Nat.ne_of_lt l2; have e3 := Nat.ne_of_lt l3
  have q30 := cell0 0 k3.out rfl; have q31 := cell0 1 k3.out rfl; have q32 := cell0 2 k3.out rfl; have q33 := cell0 3 k3.out rfl
  go_wp2_with fail
  have z0 := C_block [⟨2, 0⟩] (blk_alloc (blk_new w9 (.cells #[.int .i64 2, .int .i64 0] 23)) (.cells #[.int .i64 2, .int .i64 0] 23)) rfl (by decide)
  have z1 := C_block [⟨2, 0⟩] (blk_new (w9.alloc (.cells #[.int .i64 2, .int .i64 0] 23)) (.cells #[.int .i64 2, .int .i64 0] 23)) rfl (by decide)
  rw [World.size_alloc] at z1
  refine (equal_any (some ⟨w9.heap.size, 0, none⟩) (some ⟨w9.heap.size + 1, 0, none⟩) 1 1 [⟨2, 0⟩] [⟨2, 0⟩] _ z0 (by decide) z1 (by decide) (by decide)).mono ?_
  rintro e w10 ⟨rfl, hb⟩
  rw [show eqPts [⟨2, 0⟩] [⟨2, 0⟩] = true from by decide +kernel]
  replace hb := below_step (below_alloc (below_alloc (Below.refl w9.heap.size w9) _) _) hb
  clear z0 z1
  have m0 := blk_below k0.out hb; have m1 := blk_below k1.out hb; have m2 := blk_below k2.out hb; have m3 := blk_below k3.out hb; have m4 := below_step HB.out hb
  clear hb k0 k1 k2 k3 HB q00 q01 q10 q11 q20 q21 q30 q31 q32 q33 e0 e1 e2 e3 l0 l1 l2 l3
  have k0 := Aside0.mk m0; have k1 := Aside0.mk m1; have k2 := Aside0.mk m2; have k3 := Aside0.mk m3; have HB := Aside0.mk m4
  clear m0 m1 m2 m3 m4
  have q00 := cell0 0 k0.out rfl; have q01 := cell0 1 k0.out rfl; have q10 := cell0 0 k1.out rfl; have q11 := cell0 1 k1.out rfl; have q20 := cell0 0 k2.out rfl; have q21 := cell0 1 k2.out rfl
  have l0 := blk_lt k0.out; have l1 := blk_lt k1.out; have l2 := blk_lt k2.out; have l3 := blk_lt k3.out
  have e0 := Nat.ne_of_lt l0; have e1 := Nat.ne_of_lt l1; have e2 := Nat.ne_of_lt l2; have e3 := Nat.ne_of_lt l3
  have q30 := cell0 0 k3.out rfl; have q31 := cell0 1 k3.out rfl; have q32 := cell0 2 k3.out rfl; have q33 := cell0 3 k3.out rfl
  go_wp2_with fail
  refine (right_any _ _ _).mono ?_
  rintro e w11 ⟨rfl, hb⟩
  rw [show rightB 2 0 = true from by decide +kernel]
  have m0 := blk_below k0.out hb; have m1 := blk_below k1.out hb; have m2 := blk_below k2.out hb; have m3 := blk_below k3.out hb; have m4 := below_step HB.out hb
  clear hb k0 k1 k2 k3 HB q00 q01 q10 q11 q20 q21 q30 q31 q32 q33 e0 e1 e2 e3 l0 l1 l2 l3
  have k0 := Aside0.mk m0; have k1 := Aside0.mk m1; have k2 := Aside0.mk m2; have k3 := Aside0.mk m3; have HB := Aside0.mk m4
  clear m0 m1 m2 m3 m4
  have q00 := cell0 0 k0.out rfl; have q01 := cell0 1 k0.out rfl; have q10 := cell0 0 k1.out rfl; have q11 := cell0 1 k1.out rfl; have q20 := cell0 0 k2.out rfl; have q21 := cell0 1 k2.out rfl
  have l0 := blk_lt k0.out; have l1 := blk_lt k1.out; have l2 := blk_lt k2.out; have l3 := blk_lt k3.out
  have e0 := Nat.ne_of_lt l0; have e1 := Nat.ne_of_lt l1; have e2 := Nat.ne_of_lt l2; have e3 := Nat.ne_of_lt l3
  have q30 := cell0 0 k3.out rfl; have q31 := cell0 1 k3.out rfl; have q32 := cell0 2 k3.out rfl; have q33 := cell0 3 k3.out rfl
  go_wp2_with fail
  go_ret
  exact ⟨rfl, HB.out⟩
end Go.Proofs.Ytpfgjagpaddcpaa.Own
