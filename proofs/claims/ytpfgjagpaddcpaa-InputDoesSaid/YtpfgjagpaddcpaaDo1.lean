import Derived.Test.YtpfgjagpaddcpaaBa6
/-! Texts that this law leans on, put together by a program of this session: X6 G4. -/
-- Printed by the kit's print.py for this seat (all laws in one set), called by this session.
namespace Go.Proofs.Ytpfgjagpaddcpaa.X
open Go.RowKit Go.Proofs.YtpfgjagpaddcpaaW.PrintWords Go.Proofs.YtpfgjagpaddcpaaW.PrintLast Go.Proofs.YtpfgjagpaddcpaaW.PrintMore
attribute [local go_sem] max2_int min2_int max_two min_two max_three min_three max_four min_four
set_option linter.unusedVariables false
set_option linter.unusedSimpArgs false

/-! ### input_Does: function 33 -/
/-! ### input_Wants: function 35 -/
-- NOT PRINTED: function 56 (input_sides)

/-! ### input_twice: function 57 -/
-- NOT PRINTED: function 38 (input_Wind)

-- NOT PRINTED: function 73 (api_Ring_73)

-- NOT PRINTED: function 62 (api_Ring_62)

-- NOT PRINTED: function 80 (api_Point_80)

-- NOT PRINTED: function 74 (api_Point_74)

/-! ### input_far: function 75 -/
-- NOT PRINTED: function 63 (input_rings)

-- NOT PRINTED: function 45 (input_Check)

-- NOT PRINTED: function 47 (input_Edges)

-- NOT PRINTED: function 76 (api_Point_76)

-- NOT PRINTED: function 67 (input_copied)

-- NOT PRINTED: function 49 (input_Clone)

-- NOT PRINTED: function 77 (api_Ring_77)

-- NOT PRINTED: function 68 (input_alike)

-- NOT PRINTED: function 50 (input_Same)

-- NOT PRINTED: function 31 (cobweblaw11_alive)

/-! ### cobwebref11_Does: function 34 -/
def cobwebref11_Does.j0 : Nat → Int → Bool → Bool → Bool → Option (Bool)
  | 0, _, _, _, _ => none
  | k + 1, x0, x1, x2, x10 => if x10 = true then (if x0 = 0 then (some true) else (some (x0 == 1))) else (if x1 = true then (if x0 = 0 then (some true) else (if x0 = 2 then (some true) else (some (x0 == 3)))) else (if x2 = true then (if x0 = 0 then (some true) else (some (x0 == 3))) else (some false)))
def cobwebref11_Does.f (k : Nat) (a0 : Int) (a1 : Bool) (a2 : Bool) : Option (Bool) := if a1 = true then (cobwebref11_Does.j0 k a0 a1 a2 a2) else (cobwebref11_Does.j0 k a0 a1 a2 false)
set_option maxHeartbeats 8000000 in
set_option maxRecDepth 100000 in
theorem cobwebref11_Does.calls (k : Nat) (a0 : Int) (a1 : Bool) (a2 : Bool) (r : Bool) (w : World) (h : cobwebref11_Does.f k a0 a1 a2 = some r) :
    Calls Try.prog 34 #[.int .i64 a0, .bool a1, .bool a2] w fun e w' => e = .returned (.bool r) ∧ Drawn0 w w' := by
  have H : (if a1 = true then (cobwebref11_Does.j0 k a0 a1 a2 a2) else (cobwebref11_Does.j0 k a0 a1 a2 false)) = some r := h
  clear h
  have HC4 := Aside0.mk H
  clear H
  go_enter Try.func34, Try.ntmps34
  go_upto_region 1 with (fail)
  go_cut [10] (fun v10 wc => ∃ (kq : Nat) (x10_3 : Bool), v10 = .bool x10_3 ∧ Aside0 (cobwebref11_Does.j0 kq a0 a1 a2 x10_3 = some r) ∧ Aside0 (kq ≤ k) ∧ Drawn0 w wc)
  case first =>
    have H := HC4.out
    clear HC4
    by_cases c5 : a1 = true
    · subst c5
      have H1 : (cobwebref11_Does.j0 k a0 true a2 a2) = some r := by rw [if_pos rfl] at H; exact H
      clear H
      have H := H1
      clear H1
      have H' := Aside0.mk H
      clear H
      go_wp2
      go_meet
      case rel => exact ⟨_, (a2), (by first | rfl | (simp; done) | (simp [*]; done)), H', ⟨by first | omega | exact Nat.le_refl _⟩, by repeat (first | exact Drawn0.refl _ | apply Drawn0.step)⟩
    · replace c5 := Bool.eq_false_iff.mpr c5
      subst c5
      have H1 : (cobwebref11_Does.j0 k a0 false a2 false) = some r := by rw [if_neg (show ¬ (false = true) by decide)] at H; exact H
      clear H
      have H := H1
      clear H1
      have H' := Aside0.mk H
      clear H
      go_wp2
      go_meet
      case rel => exact ⟨_, (false), (by first | rfl | (simp; done) | (simp [*]; done)), H', ⟨by first | omega | exact Nat.le_refl _⟩, by repeat (first | exact Drawn0.refl _ | apply Drawn0.step)⟩
  case rest =>
    clear HC4
    try clear p2
    try clear c3
    try clear c5
    obtain ⟨kq, x10_3, rfl, HA, HJ3, ⟨mc3, rfl⟩⟩ := hcut
    cases kq with
    | zero => exact absurd HA.out (by simp [cobwebref11_Does.j0])
    | succ kj3 =>
      have H := HA.out
      clear HA
      simp only [cobwebref11_Does.j0] at H
      by_cases c6 : x10_3 = true
      · subst c6
        have H1 : (if a0 = 0 then (some true) else (some (a0 == 1))) = some r := by rw [if_pos rfl] at H; exact H
        clear H
        have H := H1
        clear H1
        by_cases c7 : a0 = 0
        · rw [if_pos c7] at H
          have c7b0 : (a0 == 0) = true := beq_iff_eq.mpr c7
          have c7b1 : (a0 != 0) = false := bne_eq_false_iff_eq.mpr c7
          clear c7
          obtain rfl := Option.some.inj H
          go_wp2
          go_ret
          exact ⟨by first | rfl | (simp; done) | (simp [*]; done), by repeat (first | exact Drawn0.refl _ | apply Drawn0.step)⟩
        · rw [if_neg c7] at H
          have c7b0 : (a0 == 0) = false := beq_eq_false_iff_ne.mpr c7
          have c7b1 : (a0 != 0) = true := bne_iff_ne.mpr c7
          obtain rfl := Option.some.inj H
          go_wp2
          go_ret
          exact ⟨by first | rfl | (simp; done) | (simp [*]; done), by repeat (first | exact Drawn0.refl _ | apply Drawn0.step)⟩
      · replace c6 := Bool.eq_false_iff.mpr c6
        subst c6
        have H1 : (if a1 = true then (if a0 = 0 then (some true) else (if a0 = 2 then (some true) else (some (a0 == 3)))) else (if a2 = true then (if a0 = 0 then (some true) else (some (a0 == 3))) else (some false))) = some r := by rw [if_neg (show ¬ (false = true) by decide)] at H; exact H
        clear H
        have H := H1
        clear H1
        by_cases c8 : a1 = true
        · subst c8
          have H1 : (if a0 = 0 then (some true) else (if a0 = 2 then (some true) else (some (a0 == 3)))) = some r := by rw [if_pos rfl] at H; exact H
          clear H
          have H := H1
          clear H1
          by_cases c9 : a0 = 0
          · rw [if_pos c9] at H
            have c9b0 : (a0 == 0) = true := beq_iff_eq.mpr c9
            have c9b1 : (a0 != 0) = false := bne_eq_false_iff_eq.mpr c9
            clear c9
            obtain rfl := Option.some.inj H
            go_wp2
            go_ret
            exact ⟨by first | rfl | (simp; done) | (simp [*]; done), by repeat (first | exact Drawn0.refl _ | apply Drawn0.step)⟩
          · rw [if_neg c9] at H
            have c9b0 : (a0 == 0) = false := beq_eq_false_iff_ne.mpr c9
            have c9b1 : (a0 != 0) = true := bne_iff_ne.mpr c9
            by_cases c10 : a0 = 2
            · rw [if_pos c10] at H
              have c10b0 : (a0 == 2) = true := beq_iff_eq.mpr c10
              have c10b1 : (a0 != 2) = false := bne_eq_false_iff_eq.mpr c10
              clear c10
              obtain rfl := Option.some.inj H
              go_wp2
              go_ret
              exact ⟨by first | rfl | (simp; done) | (simp [*]; done), by repeat (first | exact Drawn0.refl _ | apply Drawn0.step)⟩
            · rw [if_neg c10] at H
              have c10b0 : (a0 == 2) = false := beq_eq_false_iff_ne.mpr c10
              have c10b1 : (a0 != 2) = true := bne_iff_ne.mpr c10
              obtain rfl := Option.some.inj H
              go_wp2
              go_ret
              exact ⟨by first | rfl | (simp; done) | (simp [*]; done), by repeat (first | exact Drawn0.refl _ | apply Drawn0.step)⟩
        · replace c8 := Bool.eq_false_iff.mpr c8
          subst c8
          have H1 : (if a2 = true then (if a0 = 0 then (some true) else (some (a0 == 3))) else (some false)) = some r := by rw [if_neg (show ¬ (false = true) by decide)] at H; exact H
          clear H
          have H := H1
          clear H1
          by_cases c11 : a2 = true
          · subst c11
            have H1 : (if a0 = 0 then (some true) else (some (a0 == 3))) = some r := by rw [if_pos rfl] at H; exact H
            clear H
            have H := H1
            clear H1
            by_cases c12 : a0 = 0
            · rw [if_pos c12] at H
              have c12b0 : (a0 == 0) = true := beq_iff_eq.mpr c12
              have c12b1 : (a0 != 0) = false := bne_eq_false_iff_eq.mpr c12
              clear c12
              obtain rfl := Option.some.inj H
              go_wp2
              go_ret
              exact ⟨by first | rfl | (simp; done) | (simp [*]; done), by repeat (first | exact Drawn0.refl _ | apply Drawn0.step)⟩
            · rw [if_neg c12] at H
              have c12b0 : (a0 == 0) = false := beq_eq_false_iff_ne.mpr c12
              have c12b1 : (a0 != 0) = true := bne_iff_ne.mpr c12
              obtain rfl := Option.some.inj H
              go_wp2
              go_ret
              exact ⟨by first | rfl | (simp; done) | (simp [*]; done), by repeat (first | exact Drawn0.refl _ | apply Drawn0.step)⟩
          · replace c11 := Bool.eq_false_iff.mpr c11
            subst c11
            have H1 : (some false) = some r := by rw [if_neg (show ¬ (false = true) by decide)] at H; exact H
            clear H
            have H := H1
            clear H1
            obtain rfl := Option.some.inj H
            go_wp2
            go_ret
            exact ⟨by first | rfl | (simp; done) | (simp [*]; done), by repeat (first | exact Drawn0.refl _ | apply Drawn0.step)⟩

-- NOT PRINTED: function 6 (cobweblaw11_InputDoes)

-- NOT PRINTED: function 36 (cobweblaw11_Many)

/-! ### cobweblaw11_right: function 37 -/
-- NOT PRINTED: function 7 (cobweblaw11_InputMoved)

-- NOT PRINTED: function 8 (cobweblaw04_PlaneBoxes)

-- NOT PRINTED: function 9 (cobweblaw04_PlaneAround)

end Go.Proofs.Ytpfgjagpaddcpaa.X

/-! InputDoes, walked. -/
namespace Go.Proofs.Ytpfgjagpaddcpaa.Own
open Go.RowKit Go.Proofs.YtpfgjagpaddcpaaW.PrintWords Go.Proofs.YtpfgjagpaddcpaaW.PrintLast Go.Proofs.YtpfgjagpaddcpaaW.PrintMore
open Go.Proofs.Ytpfgjagpaddcpaa.X
set_option linter.unusedVariables false
set_option linter.unusedSimpArgs false

/-- What is filled; what is in the result. -/
def filB (f n : Int) : Bool := decide ((f = 0 ∧ Int.tmod n 2 ≠ 0) ∨ (f = 1 ∧ n ≠ 0))
def doesB (o : Int) (a b : Bool) : Bool := if o = 0 then a || b else if o = 1 then a && b else if o = 2 then a && !b else if o = 3 then a != b else false

theorem fills_f (f n : Int) : input_Fills.f f n = some (filB f n) := by
  unfold input_Fills.f filB
  by_cases h0 : f = 0
  · subst h0
    by_cases h1 : Int.tmod n 2 = 0 <;> simp [h1]
  · by_cases h1 : f = 1
    · subst h1
      by_cases h2 : n = 0 <;> simp [h2]
    · simp [h0, h1]
theorem rfills_f (f n : Int) : cobwebref11_Fills.f f n = some (filB f n) := by
  unfold cobwebref11_Fills.f filB
  have h2 : Int.tmod n 2 = 0 ∨ Int.tmod n 2 = 1 ∨ Int.tmod n 2 = -1 := by
    have := Int.tmod_lt_of_pos n (show (0 : Int) < 2 by decide)
    have h3 := Int.lt_tmod_of_pos n (show (0 : Int) < 2 by decide)
    omega
  by_cases h0 : f = 0
  · subst h0
    rcases h2 with h | h | h <;> simp [h]
  · by_cases h1 : f = 1
    · subst h1
      by_cases h2 : n = 0 <;> simp [h2]
    · simp [h0, h1]
theorem does_f (o : Int) (a b : Bool) : input_Does.f o a b = some (doesB o a b) := by
  unfold input_Does.f doesB
  by_cases h0 : o = 0
  · cases a <;> simp [h0]
  · by_cases h1 : o = 1
    · cases a <;> simp [h1]
    · by_cases h2 : o = 2
      · cases a <;> simp [h2]
      · by_cases h3 : o = 3
        · cases a <;> simp [h3]
        · simp [h0, h1, h2, h3]
theorem rdoes_f (k : Nat) (o : Int) (a b : Bool) : cobwebref11_Does.f (k + 1) o a b = some (doesB o a b) := by
  unfold cobwebref11_Does.f doesB
  by_cases h0 : o = 0
  · subst h0; cases a <;> cases b <;> simp [cobwebref11_Does.j0]
  · by_cases h1 : o = 1
    · subst h1; cases a <;> cases b <;> simp [cobwebref11_Does.j0]
    · by_cases h2 : o = 2
      · subst h2; cases a <;> cases b <;> simp [cobwebref11_Does.j0]
      · by_cases h3 : o = 3
        · subst h3; cases a <;> cases b <;> simp [cobwebref11_Does.j0]
        · cases a <;> cases b <;> simp [cobwebref11_Does.j0, h0, h1, h2, h3]

theorem fills_any (f n : Int) (w : World) : Calls Try.prog 32 #[.int .i64 f, .int .i64 n] w fun e w' => e = .returned (.bool (filB f n)) ∧ Below w.heap.size w w' :=
  (input_Fills.calls f n _ _ (fills_f f n)).mono fun e w' ⟨h1, h2⟩ => ⟨h1, below_drawn0 h2⟩
theorem rfills_any (f n : Int) (w : World) : Calls Try.prog 30 #[.int .i64 f, .int .i64 n] w fun e w' => e = .returned (.bool (filB f n)) ∧ Below w.heap.size w w' :=
  (cobwebref11_Fills.calls f n _ _ (rfills_f f n)).mono fun e w' ⟨h1, h2⟩ => ⟨h1, below_drawn0 h2⟩
theorem does_any (o : Int) (a b : Bool) (w : World) : Calls Try.prog 33 #[.int .i64 o, .bool a, .bool b] w fun e w' => e = .returned (.bool (doesB o a b)) ∧ Below w.heap.size w w' :=
  (input_Does.calls o a b _ _ (does_f o a b)).mono fun e w' ⟨h1, h2⟩ => ⟨h1, below_drawn0 h2⟩
theorem rdoes_any (o : Int) (a b : Bool) (w : World) : Calls Try.prog 34 #[.int .i64 o, .bool a, .bool b] w fun e w' => e = .returned (.bool (doesB o a b)) ∧ Below w.heap.size w w' :=
  (cobwebref11_Does.calls 1 o a b _ _ (rdoes_f 0 o a b)).mono fun e w' ⟨h1, h2⟩ => ⟨h1, below_drawn0 h2⟩
theorem wants_any (A B : Option Addr) (ca cb : Nat) (la lb : List (List S23)) (o f r c a b : Int) (w : World) (hA : Kd.C (Kd.slice 23 k23) w A la.length la) (hca : la.length ≤ ca) (hB : Kd.C (Kd.slice 23 k23) w B lb.length lb) (hcb : lb.length ≤ cb) :
    Calls Try.prog 35 #[.agg #[.slice A la.length ca, .slice B lb.length cb, .int .i64 o, .int .i64 f, .int .i64 r, .int .i64 c], .int .i64 a, .int .i64 b] w fun e w' => e = .returned (.bool (doesB o (filB f a) (filB f b))) ∧ Below w.heap.size w w' :=
  input_Wants.calls A ca la B cb lb o f r c a b _ w hA hca hB hcb (by simp only [input_Wants.f, fills_f, does_f, Option.bind_some])

set_option maxRecDepth 100000 in
set_option maxHeartbeats 8000000 in
theorem inputDoes_walk (w : World) (A : Option Addr) (ca : Nat) (la : List (List S23)) (hca : la.length ≤ ca) (hA : Kd.C (Kd.slice 23 k23) w A la.length la) (B : Option Addr) (cb : Nat) (lb : List (List S23)) (hcb : lb.length ≤ cb) (hB : Kd.C (Kd.slice 23 k23) w B lb.length lb)
    (o f r c a b : Int) :
    Calls Try.prog 6 #[.agg #[.slice A la.length ca, .slice B lb.length cb, .int .i64 o, .int .i64 f, .int .i64 r, .int .i64 c], .int .i64 a, .int .i64 b] w fun e w' => e = .returned (.bool true) ∧ Below w.heap.size w w' := by
  have hu37 := Try.underlying37
  have hu41 := Try.underlying41
  have HA := Aside0.mk hA
  have HB := Aside0.mk hB
  have HCA := Aside0.mk hca
  have HCB := Aside0.mk hcb
  clear hA hB hca hcb
  go_enter Try.func6, Try.ntmps6
  go_wp2_with fail
  have hk := blk_new w (.cells #[.slice A la.length ca, .slice B lb.length cb, .int .i64 o, .int .i64 f, .int .i64 r, .int .i64 c] 37)
  have HW0 := Aside0.mk (below_alloc (Below.refl w.heap.size w) (.cells #[.slice A la.length ca, .slice B lb.length cb, .int .i64 o, .int .i64 f, .int .i64 r, .int .i64 c] 37))
  generalize w.alloc (.cells #[.slice A la.length ca, .slice B lb.length cb, .int .i64 o, .int .i64 f, .int .i64 r, .int .i64 c] 37) = W0 at hk HW0 ⊢
  obtain ⟨g, hg⟩ : ∃ g, w.heap.size = g := ⟨_, rfl⟩
  rw [hg] at hk ⊢
  have K0 := Aside0.mk hk
  have HG := Aside0.mk hg
  clear hk hg
  have c0 := cell0 0 K0.out rfl; have c1 := cell0 1 K0.out rfl; have c2 := cell0 2 K0.out rfl; have c3 := cell0 3 K0.out rfl; have c4 := cell0 4 K0.out rfl; have c5 := cell0 5 K0.out rfl
  go_region_held3 (fun w' => Below W0.heap.size W0 w' ∧ w'.cell? ⟨g, 0, none⟩ = some (.slice A la.length ca) ∧ w'.cell? ⟨g, 1, none⟩ = some (.slice B lb.length cb) ∧ w'.cell? ⟨g, 2, none⟩ = some (.int .i64 o) ∧ w'.cell? ⟨g, 3, none⟩ = some (.int .i64 f) ∧ w'.cell? ⟨g, 4, none⟩ = some (.int .i64 r) ∧ w'.cell? ⟨g, 5, none⟩ = some (.int .i64 c))
    (first | (exact ⟨below_drew1 (Below.refl _ _), (World.cell?_drew _ _).trans c0, (World.cell?_drew _ _).trans c1, (World.cell?_drew _ _).trans c2, (World.cell?_drew _ _).trans c3, (World.cell?_drew _ _).trans c4, (World.cell?_drew _ _).trans c5⟩) | (have hH := ‹Below _ _ _ ∧ _›; exact ⟨below_step hH.1 ‹Below _ _ _›, cell_on ‹Below _ _ _› hH.2.1, cell_on ‹Below _ _ _› hH.2.2.1, cell_on ‹Below _ _ _› hH.2.2.2.1, cell_on ‹Below _ _ _› hH.2.2.2.2.1, cell_on ‹Below _ _ _› hH.2.2.2.2.2.1, cell_on ‹Below _ _ _› hH.2.2.2.2.2.2⟩) | (have hH := ‹Below _ _ _ ∧ _›; exact ⟨pw_below_drewN hH.1 _, hH.2.1, hH.2.2.1, hH.2.2.2.1, hH.2.2.2.2.1, hH.2.2.2.2.2.1, hH.2.2.2.2.2.2⟩))
    ((first
    | (go_at_call 30; (with_reducible refine (rfills_any _ _ _).mono ?_); rintro e w4 ⟨rfl, hb⟩)))
  have hh := ‹Below W0.heap.size W0 _ ∧ _›
  have HW1 := Aside0.mk (below_step HW0.out hh.1)
  clear c0 c1 c2 c3 c4 c5
  obtain ⟨_, c0, c1, c2, c3, c4, c5⟩ := hh
  generalize w4 = W1 at HW1 c0 c1 c2 c3 c4 c5 ⊢
  go_wp2_with fail
  go_region_held3 (fun w' => Below W1.heap.size W1 w' ∧ w'.cell? ⟨g, 0, none⟩ = some (.slice A la.length ca) ∧ w'.cell? ⟨g, 1, none⟩ = some (.slice B lb.length cb) ∧ w'.cell? ⟨g, 2, none⟩ = some (.int .i64 o) ∧ w'.cell? ⟨g, 3, none⟩ = some (.int .i64 f) ∧ w'.cell? ⟨g, 4, none⟩ = some (.int .i64 r) ∧ w'.cell? ⟨g, 5, none⟩ = some (.int .i64 c))
    (first | (exact ⟨below_drew1 (Below.refl _ _), (World.cell?_drew _ _).trans c0, (World.cell?_drew _ _).trans c1, (World.cell?_drew _ _).trans c2, (World.cell?_drew _ _).trans c3, (World.cell?_drew _ _).trans c4, (World.cell?_drew _ _).trans c5⟩) | (have hH := ‹Below _ _ _ ∧ _›; exact ⟨below_step hH.1 ‹Below _ _ _›, cell_on ‹Below _ _ _› hH.2.1, cell_on ‹Below _ _ _› hH.2.2.1, cell_on ‹Below _ _ _› hH.2.2.2.1, cell_on ‹Below _ _ _› hH.2.2.2.2.1, cell_on ‹Below _ _ _› hH.2.2.2.2.2.1, cell_on ‹Below _ _ _› hH.2.2.2.2.2.2⟩) | (have hH := ‹Below _ _ _ ∧ _›; exact ⟨pw_below_drewN hH.1 _, hH.2.1, hH.2.2.1, hH.2.2.2.1, hH.2.2.2.2.1, hH.2.2.2.2.2.1, hH.2.2.2.2.2.2⟩))
    ((first
    | (go_at_call 31; (with_reducible refine (alive11_any _).mono ?_); rintro e w4 ⟨rfl, hb⟩)
    | (go_at_call 32; (with_reducible refine (fills_any _ _ _).mono ?_); rintro e w4 ⟨rfl, hb⟩)
    | (go_at_call 33; (with_reducible refine (does_any _ _ _ _).mono ?_); rintro e w4 ⟨rfl, hb⟩)
    | (go_at_call 34; (with_reducible refine (rdoes_any _ _ _ _).mono ?_); rintro e w4 ⟨rfl, hb⟩)
    | (go_at_call 35; (with_reducible refine (wants_any _ _ _ _ _ _ _ _ _ _ _ _ _ (Kd.C_below HA.out (below_step HW1.out (‹Below W1.heap.size W1 _ ∧ _›).1)) HCA.out (Kd.C_below HB.out (below_step HW1.out (‹Below W1.heap.size W1 _ ∧ _›).1)) HCB.out).mono ?_); rintro e w4 ⟨rfl, hb⟩)))
  all_goals (go_wp2_with fail; go_ret; exact ⟨rfl, below_step HW1.out (‹Below W1.heap.size W1 _ ∧ _›).1⟩)
end Go.Proofs.Ytpfgjagpaddcpaa.Own
