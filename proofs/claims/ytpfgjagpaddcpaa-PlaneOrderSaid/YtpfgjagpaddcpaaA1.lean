import Derived.Test.YtpfgjagpaddcpaaX2
/-! Which points are right; the closure that Area hands on; IndexFunc and ContainsFunc over it. -/
namespace Go.Proofs.Ytpfgjagpaddcpaa.Own
open Go.RowKit Go.Proofs.YtpfgjagpaddcpaaW.PrintWords Go.Proofs.YtpfgjagpaddcpaaW.PrintLast Go.Proofs.YtpfgjagpaddcpaaW.PrintMore
open Go.Proofs.Ytpfgjagpaddcpaa.X
set_option linter.unusedVariables false
set_option linter.unusedSimpArgs false

theorem cell_on {W w' : World} {a : Addr} {v : Value} (hb : Below W.heap.size W w') (h : W.cell? a = some v) : w'.cell? a = some v := (hb.cell (World.block_lt_of_cell? W _ h)).trans h

/-- A point as a value. -/
abbrev ptV (x y : Int) : Value := .agg #[.int .i64 x, .int .i64 y]

/-- Which points are right. -/
def rightB (x y : Int) : Bool := decide (-536870912 ≤ x ∧ x ≤ 536870912 ∧ -536870912 ≤ y ∧ y ≤ 536870912)

theorem right_f (x y : Int) : plane_Right.f x y = some (rightB x y) := by
  unfold plane_Right.f rightB
  by_cases h1 : x ≥ -536870912 <;> by_cases h2 : x ≤ 536870912 <;> by_cases h3 : y ≥ -536870912 <;> by_cases h4 : y ≤ 536870912 <;> simp [h1, h2, h3, h4] <;> omega

theorem right_any (x y : Int) (w : World) : Calls Try.prog 20 #[ptV x y] w fun e w' => e = .returned (.bool (rightB x y)) ∧ Below w.heap.size w w' :=
  plane_Right.calls x y _ w (right_f x y)

set_option maxHeartbeats 400000 in
theorem wrong_any (x y : Int) (w : World) : Calls Try.prog 59 #[ptV x y] w fun e w' => e = .returned (.bool (!rightB x y)) ∧ Below w.heap.size w w' := by
  go_enter Try.func59, Try.ntmps59
  go_wp2_with fail
  refine (right_any _ _ _).mono ?_
  rintro e w1 ⟨rfl, hb⟩
  go_wp2_with fail
  go_ret
  exact ⟨rfl, ((Below.refl _ _).alloc (Nat.le_refl _) _).trans (hb.mono (by simp))⟩

/-- Are all points right? -/
def allRight (l : List S23) : Bool := l.all fun p => rightB p.f0 p.f1

theorem allRight_false (l : List S23) (x : Int) (h0 : 0 ≤ x) (hlt : x < l.length) (h : rightB (rd_T23 l x).f0 (rd_T23 l x).f1 = false) : allRight l = false := by
  unfold allRight
  rw [List.all_eq_false]
  have hn : x.toNat < l.length := by omega
  refine ⟨rd_T23 l x, ?_, by simp [h]⟩
  rw [show rd_T23 l x = l[x.toNat] by simp [rd_T23, List.getD, hn]]
  exact List.getElem_mem hn

theorem allRight_true (l : List S23) (h : ∀ j : Nat, (j : Int) < l.length → rightB (l.getD j z23).f0 (l.getD j z23).f1 = true) : allRight l = true := by
  unfold allRight
  rw [List.all_eq_true]
  intro p hp
  obtain ⟨j, hj, rfl⟩ := List.mem_iff_getElem.1 hp
  have := h j (by omega)
  simpa [List.getD, hj] using this

set_option maxHeartbeats 1000000 in
theorem index_any (A : Option Addr) (c : Nat) (l : List S23) (w : World) (hr : Kd.C k23 w A l.length l) (hc : l.length ≤ c) (hm : l.length ≤ 9223372036854775807) :
    Calls Try.prog 72 #[.slice A l.length c, .func (.func 59) #[] #[]] w fun e w' => (∃ r : Int, e = .returned (.int .i64 r) ∧ (0 ≤ r ↔ allRight l = false)) ∧ Below w.heap.size w w' := by
  have hu23 := Try.underlying23
  have HR := Aside0.mk hr
  clear hr
  go_enter Try.func72, Try.ntmps72
  go_wp2_with fail
  go_loopw [8] (fun i wr => ∃ x : Int, i = .int .i64 x ∧ Aside0 (0 ≤ x ∧ x ≤ l.length ∧ (∀ j : Nat, (j : Int) < x → rightB (l.getD j z23).f0 (l.getD j z23).f1 = true)) ∧ Aside0 (Below w.heap.size w wr)) (fun i _ => l.length - (intOf i).toNat)
  case atStart => exact ⟨0, rfl, ⟨by omega, by omega, fun j hj => by omega⟩, ⟨Below.refl _ _⟩⟩
  case round =>
    obtain ⟨x, rfl, HX, HB⟩ := hrel
    obtain ⟨h0, h1, h2⟩ := HX.out
    have HA := Aside0.mk h2
    clear HX h2
    by_cases hlt : x < (l.length : Int)
    · have c3b0 : decide (x < (l.length : Int)) = true := decide_eq_true hlt
      obtain ⟨ad, e1, hx0, hx1⟩ := at_T23 HR.out x h0 hlt
      cases e1
      replace hx0 := (HB.out.cell (World.block_lt_of_cell? w _ hx0)).trans hx0
      replace hx1 := (HB.out.cell (World.block_lt_of_cell? w _ hx1)).trans hx1
      have p1 := eq_true h0
      have p2 := eq_true hlt
      go_wp2_with fail
      refine (wrong_any _ _ _).mono ?_
      rintro e w1 ⟨rfl, hb1⟩
      by_cases hq : rightB (rd_T23 l x).f0 (rd_T23 l x).f1 = true
      · simp only [hq, Bool.not_true]
        have HQ := Aside0.mk hq
        clear hq
        go_wp2_with fail
        go_roundw
        case rel => 
          refine ⟨x + 1, by go_num, ⟨by omega, by omega, fun j hj => ?_⟩, ⟨HB.out.trans (hb1.mono HB.out.size)⟩⟩
          by_cases hj2 : (j : Int) < x
          · exact HA.out j hj2
          · have : j = x.toNat := by omega
            rw [this]
            exact HQ.out
        case measure => simp [intOf]; omega
      · have hq' : rightB (rd_T23 l x).f0 (rd_T23 l x).f1 = false := by simpa using hq
        simp only [hq', Bool.not_false]
        have HQ := Aside0.mk hq'
        clear hq hq'
        go_wp2_with fail
        go_ret
        exact ⟨⟨x, rfl, ⟨fun _ => allRight_false l x h0 hlt HQ.out, fun _ => h0⟩⟩, HB.out.trans (hb1.mono HB.out.size)⟩
    · have c3b0 : decide (x < (l.length : Int)) = false := decide_eq_false hlt
      go_wp2_with fail
      go_ret
      refine ⟨⟨-1, rfl, ⟨fun h => by omega, fun h => ?_⟩⟩, HB.out⟩
      rw [allRight_true l (fun j hj => HA.out j (by omega))] at h
      cases h

set_option maxHeartbeats 1000000 in
theorem contains_any (A : Option Addr) (c : Nat) (l : List S23) (w : World) (hr : Kd.C k23 w A l.length l) (hc : l.length ≤ c) (hm : l.length ≤ 9223372036854775807) :
    Calls Try.prog 60 #[.slice A l.length c, .func (.func 59) #[] #[]] w fun e w' => e = .returned (.bool (!allRight l)) ∧ Below w.heap.size w w' := by
  go_enter Try.func60, Try.ntmps60
  go_wp2_with fail
  refine (index_any A c l _ hr hc hm).mono ?_
  rintro e w1 ⟨⟨r, rfl, hq⟩, hb⟩
  by_cases h : 0 ≤ r
  · have h2 := Aside0.mk (hq.1 h)
    have hd : decide (0 ≤ r) = true := decide_eq_true h
    clear hq h
    go_wp2_with fail
    go_ret
    exact ⟨by rw [h2.out]; rfl, hb⟩
  · have h2 := Aside0.mk (show allRight l = true by cases hx : allRight l with | true => rfl | false => exact absurd (hq.2 hx) h)
    have hd : decide (0 ≤ r) = false := decide_eq_false h
    clear hq h
    go_wp2_with fail
    go_ret
    exact ⟨by rw [h2.out]; rfl, hb⟩

/-- Cross. -/
def crossB (ox oy ax ay bx by_ : Int) : Int :=
  if rightB ox oy = true ∧ rightB ax ay = true ∧ rightB bx by_ = true then (ax - ox) * (by_ - oy) - (ay - oy) * (bx - ox) else 0

theorem rightB_iff (x y : Int) : rightB x y = true ↔ (-536870912 ≤ x ∧ x ≤ 536870912 ∧ -536870912 ≤ y ∧ y ≤ 536870912) := by
  unfold rightB
  exact decide_eq_true_iff

theorem mul_bd {a b : Int} (ha : -1073741824 ≤ a ∧ a ≤ 1073741824) (hb : -1073741824 ≤ b ∧ b ≤ 1073741824) : -1152921504606846976 ≤ a * b ∧ a * b ≤ 1152921504606846976 := by
  have h1 : a.natAbs * b.natAbs ≤ 1073741824 * 1073741824 := Nat.mul_le_mul (by omega) (by omega)
  have h2 := Int.natAbs_mul a b
  omega

theorem cross_f (ox oy ax ay bx by_ : Int) : plane_Cross.f ox oy ax ay bx by_ = some (crossB ox oy ax ay bx by_) := by
  unfold plane_Cross.f crossB
  simp only [right_f, Option.bind_some]
  cases h1 : rightB ox oy with
  | false => simp
  | true =>
    cases h2 : rightB ax ay with
    | false => simp
    | true =>
      cases h3 : rightB bx by_ with
      | false => simp
      | true =>
        rw [rightB_iff] at h1 h2 h3
        simp only [if_true, and_self, Option.some.injEq]
        have e1 : wrap64 (ax - ox) = ax - ox := by unfold wrap64; omega
        have e2 : wrap64 (by_ - oy) = by_ - oy := by unfold wrap64; omega
        have e3 : wrap64 (ay - oy) = ay - oy := by unfold wrap64; omega
        have e4 : wrap64 (bx - ox) = bx - ox := by unfold wrap64; omega
        rw [e1, e2, e3, e4]
        have m1 := mul_bd (a := ax - ox) (b := by_ - oy) (by omega) (by omega)
        have m2 := mul_bd (a := ay - oy) (b := bx - ox) (by omega) (by omega)
        generalize (ax - ox) * (by_ - oy) = p at *
        generalize (ay - oy) * (bx - ox) = q at *
        have e5 : wrap64 p = p := by unfold wrap64; omega
        have e6 : wrap64 q = q := by unfold wrap64; omega
        rw [e5, e6]
        unfold wrap64
        omega

theorem cross_any (ox oy ax ay bx by_ : Int) (w : World) : Calls Try.prog 18 #[ptV ox oy, ptV ax ay, ptV bx by_] w fun e w' => e = .returned (.int .i64 (crossB ox oy ax ay bx by_)) ∧ Below w.heap.size w w' :=
  plane_Cross.calls ox oy ax ay bx by_ _ w (cross_f ox oy ax ay bx by_)

theorem crossB_bd (ox oy ax ay bx by_ : Int) : -2305843009213693952 ≤ crossB ox oy ax ay bx by_ ∧ crossB ox oy ax ay bx by_ ≤ 2305843009213693952 := by
  unfold crossB
  split
  · rename_i h
    obtain ⟨h1, h2, h3⟩ := h
    rw [rightB_iff] at h1 h2 h3
    have m1 := mul_bd (a := ax - ox) (b := by_ - oy) (by omega) (by omega)
    have m2 := mul_bd (a := ay - oy) (b := bx - ox) (by omega) (by omega)
    omega
  · omega

/-- The area, as the program adds it up: the first k edges. -/
def areaTo (l : List S23) : Nat → Int
  | 0 => 0
  | k + 1 => wrap64 (areaTo l k + crossB 0 0 (l.getD k z23).f0 (l.getD k z23).f1 (l.getD ((k + 1) % l.length) z23).f0 (l.getD ((k + 1) % l.length) z23).f1)

theorem areaTo_step (l : List S23) (x y : Int) (h0 : 0 ≤ x) (hy : y = (x + 1) % (l.length : Int)) :
    IntKind.i64.wrap (areaTo l x.toNat + crossB 0 0 (rd_T23 l x).f0 (rd_T23 l x).f1 (rd_T23 l y).f0 (rd_T23 l y).f1) = areaTo l (x + 1).toNat := by
  obtain ⟨n, rfl⟩ := Int.eq_ofNat_of_zero_le h0
  have e1 : ((n : Int) + 1).toNat = n + 1 := by omega
  have e2 : y = (((n + 1) % l.length : Nat) : Int) := by rw [hy]; simp
  subst e2
  rw [e1, areaTo, i64_w]
  unfold rd_T23
  simp only [Int.toNat_natCast]

def areaB (l : List S23) : Int := if l.length > 2000 ∨ allRight l = false then 0 else areaTo l l.length

set_option maxHeartbeats 2000000 in
set_option maxRecDepth 100000 in
theorem area_any (A : Option Addr) (c : Nat) (l : List S23) (w : World) (hr : Kd.C k23 w A l.length l) (hc : l.length ≤ c) (hm : l.length ≤ 9223372036854775807) :
    Calls Try.prog 42 #[.slice A l.length c] w fun e w' => e = .returned (.int .i64 (areaB l)) ∧ Below w.heap.size w w' := by
  by_cases h2000 : l.length > 2000
  · have e : areaB l = 0 := by unfold areaB; rw [if_pos (Or.inl h2000)]
    rw [e]
    have hd1 : decide (2000 < l.length) = true := decide_eq_true h2000
    clear e hr
    go_enter Try.func42, Try.ntmps42
    go_wp2_with fail
    go_ret
    exact ⟨rfl, Below.refl _ _⟩
  · have HR := Aside0.mk hr
    clear hr
    have hd1 : decide (2000 < l.length) = false := decide_eq_false h2000
    cases hal : allRight l with
    | false =>
      have e : areaB l = 0 := by unfold areaB; rw [if_pos (Or.inr hal)]
      rw [e]
      have HA := Aside0.mk hal
      clear e hal
      go_enter Try.func42, Try.ntmps42
      go_wp2_with fail
      refine (contains_any A c l _ HR.out hc hm).mono ?_
      rintro e w1 ⟨rfl, hb⟩
      rw [HA.out, Bool.not_false]
      go_wp2_with fail
      go_ret
      exact ⟨rfl, hb⟩
    | true =>
      have HE := Aside0.mk (show areaB l = areaTo l l.length by unfold areaB; rw [if_neg (by rw [hal]; simp; omega)])
      have HA := Aside0.mk hal
      clear hal
      go_enter Try.func42, Try.ntmps42
      go_wp2_with fail
      refine (contains_any A c l _ HR.out hc hm).mono ?_
      rintro e w1 ⟨rfl, hb⟩
      rw [HA.out, Bool.not_true]
      go_wp2_with fail
      have hlen0 := h2000
      clear hd1
      go_loopw [4, 16] (fun n i wr => ∃ x : Int, i = .int .i64 x ∧ n = .int .i64 (areaTo l x.toNat) ∧ Aside0 (0 ≤ x ∧ x ≤ l.length) ∧ Aside0 (Below w.heap.size w wr)) (fun _ i _ => l.length - (intOf i).toNat)
      case atStart => exact ⟨0, rfl, rfl, ⟨by omega, by omega⟩, ⟨hb⟩⟩
      case round =>
        obtain ⟨x, rfl, rfl, HX, HB⟩ := hrel
        obtain ⟨h0, h1⟩ := HX.out
        clear HX hb
        by_cases hlt : x < (l.length : Int)
        · have c3b0 : decide (x < (l.length : Int)) = true := decide_eq_true hlt
          obtain ⟨ad, e1, hx0, hx1⟩ := at_T23 HR.out x h0 hlt
          cases e1
          replace hx0 := (HB.out.cell (World.block_lt_of_cell? w _ hx0)).trans hx0
          replace hx1 := (HB.out.cell (World.block_lt_of_cell? w _ hx1)).trans hx1
          have hw1 : IntKind.i64.wrap (x + 1) = x + 1 := IntWalk.i64_in _ (by omega)
          obtain ⟨y, hw2⟩ : ∃ y : Int, (x + 1).tmod (l.length : Int) = y := ⟨_, rfl⟩
          have hye : y = (x + 1) % (l.length : Int) := by rw [← hw2, Int.tmod_eq_emod_of_nonneg (by omega)]
          have hy0 : 0 ≤ y := by rw [hye]; exact Int.emod_nonneg _ (by omega)
          have hy1 : y < (l.length : Int) := by rw [hye]; exact Int.emod_lt_of_pos _ (by omega)
          have HYE := Aside0.mk hye
          clear hye
          have hw3 : IntKind.i64.wrap y = y := IntWalk.i64_in _ (by omega)
          obtain ⟨ad', e1, hz0, hz1⟩ := at_T23 HR.out y hy0 hy1
          cases e1
          replace hz0 := (HB.out.cell (World.block_lt_of_cell? w _ hz0)).trans hz0
          replace hz1 := (HB.out.cell (World.block_lt_of_cell? w _ hz1)).trans hz1
          have hu23 := Try.underlying23
          have p0 : 0 < (l.length : Int) := by omega
          have p1 : ¬ (l.length : Int) = 0 := by omega
          have p3 : ¬ l = [] := by rintro rfl; simp at p0
          go_wp2_with fail
          have HBo := HB.out
          go_region_held3 (fun w' => Below w.heap.size w w' ∧ w'.cell? (ad.add (x.toNat * 2)) = some (.int .i64 (rd_T23 l x).f0) ∧ w'.cell? ⟨(ad.add (x.toNat * 2)).block, (ad.add (x.toNat * 2)).off + 1, none⟩ = some (.int .i64 (rd_T23 l x).f1) ∧ w'.cell? (ad.add (y.toNat * 2)) = some (.int .i64 (rd_T23 l y).f0) ∧ w'.cell? ⟨(ad.add (y.toNat * 2)).block, (ad.add (y.toNat * 2)).off + 1, none⟩ = some (.int .i64 (rd_T23 l y).f1)) (first | (exact ⟨below_drew1 HBo, (World.cell?_drew _ _).trans hx0, (World.cell?_drew _ _).trans hx1, (World.cell?_drew _ _).trans hz0, (World.cell?_drew _ _).trans hz1⟩) | (have hH := ‹Below _ _ _ ∧ _›; exact ⟨below_step hH.1 ‹Below _ _ _›, cell_on ‹Below _ _ _› hH.2.1, cell_on ‹Below _ _ _› hH.2.2.1, cell_on ‹Below _ _ _› hH.2.2.2.1, cell_on ‹Below _ _ _› hH.2.2.2.2⟩)) (first | (go_at_call 18; refine (cross_any _ _ _ _ _ _ _).mono ?_; rintro e w2 ⟨rfl, hb2⟩))
          go_wp2_with fail
          go_roundw
          case rel => exact ⟨x + 1, by go_num, congrArg (Value.int .i64) (areaTo_step l x y h0 HYE.out), ⟨by omega, by omega⟩, ⟨(‹Below _ _ _ ∧ _›).1⟩⟩
          case measure => simp [intOf]; omega
        · have c3b0 : decide (x < (l.length : Int)) = false := decide_eq_false hlt
          obtain rfl : x = l.length := by omega
          go_wp2_with fail
          go_ret
          exact ⟨by rw [HE.out]; simp, HB.out⟩
end Go.Proofs.Ytpfgjagpaddcpaa.Own
