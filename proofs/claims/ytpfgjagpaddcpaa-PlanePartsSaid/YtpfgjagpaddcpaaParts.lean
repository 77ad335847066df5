import Derived.Test.YtpfgjagpaddcpaaA3
/-! PlaneParts, walked. -/
namespace Go.Proofs.Ytpfgjagpaddcpaa.Own
open Go.RowKit Go.Proofs.YtpfgjagpaddcpaaW.PrintWords Go.Proofs.YtpfgjagpaddcpaaW.PrintLast Go.Proofs.YtpfgjagpaddcpaaW.PrintMore
open Go.Proofs.Ytpfgjagpaddcpaa.X
set_option linter.unusedVariables false
set_option linter.unusedSimpArgs false

/-- An array of three points and a point, boxed, and what a call leaves of them. -/
theorem arr_pt {w w1 : World} {a b c e f g x y : Int} (hb : Below ((w.alloc (.cells #[.int .i64 a, .int .i64 b, .int .i64 c, .int .i64 e, .int .i64 f, .int .i64 g] 29)).alloc (.cells #[.int .i64 x, .int .i64 y] 23)).heap.size ((w.alloc (.cells #[.int .i64 a, .int .i64 b, .int .i64 c, .int .i64 e, .int .i64 f, .int .i64 g] 29)).alloc (.cells #[.int .i64 x, .int .i64 y] 23)) w1) :
    w1.heap[w.heap.size]? = some (.cells #[.int .i64 a, .int .i64 b, .int .i64 c, .int .i64 e, .int .i64 f, .int .i64 g] 29 (0, 0)) ∧ w1.heap[w.heap.size + 1]? = some (.cells #[.int .i64 x, .int .i64 y] 23 (0, 0)) ∧ Below w.heap.size w w1 := by
  have n0 := blk_below (blk_alloc (blk_new w (.cells #[.int .i64 a, .int .i64 b, .int .i64 c, .int .i64 e, .int .i64 f, .int .i64 g] 29)) (.cells #[.int .i64 x, .int .i64 y] 23)) hb
  have n1 := blk_below (blk_new (w.alloc (.cells #[.int .i64 a, .int .i64 b, .int .i64 c, .int .i64 e, .int .i64 f, .int .i64 g] 29)) (.cells #[.int .i64 x, .int .i64 y] 23)) hb
  simp only [World.size_alloc] at n1
  exact ⟨n0, n1, below_then (below_alloc (below_alloc (Below.refl w.heap.size w) _) _) (by simp; omega) hb⟩

theorem parts_sum {a b c e f g x y : Int} (h0 : rightB a b = true) (h1 : rightB c e = true) (h2 : rightB f g = true) (h3 : rightB x y = true) :
    IntKind.i64.wrap (IntKind.i64.wrap (crossB x y a b c e + crossB x y c e f g) + crossB x y f g a b) = crossB a b c e f g := by
  have d1 := crossB_bd x y a b c e
  have d2 := crossB_bd x y c e f g
  have d3 := crossB_bd x y f g a b
  have hs : crossB x y a b c e + crossB x y c e f g + crossB x y f g a b = crossB a b c e f g := by
    unfold crossB
    simp only [h0, h1, h2, h3, and_self, if_true]
    grind
  have w1 : IntKind.i64.wrap (crossB x y a b c e + crossB x y c e f g) = crossB x y a b c e + crossB x y c e f g := IntWalk.i64_in _ (by omega)
  rw [w1, hs]
  have d4 := crossB_bd a b c e f g
  exact IntWalk.i64_in _ (by omega)

set_option maxHeartbeats 4000000 in
set_option maxRecDepth 100000 in
theorem parts_0 (w : World) (a b c e f g x y : Int) (h0 : rightB a b = false) :
    Calls Try.prog 12 #[.agg #[.int .i64 a, .int .i64 b, .int .i64 c, .int .i64 e, .int .i64 f, .int .i64 g], .agg #[.int .i64 x, .int .i64 y]] w fun e1 w' => e1 = .returned (.bool true) ∧ Below w.heap.size w w' := by
  have H0 := Aside0.mk h0
  clear h0
  have hu23 := Try.underlying23
  have hu29 := Try.underlying29
  go_enter Try.func12, Try.ntmps12
  go_wp2_with fail
  refine (refRight_any _ _ _).mono ?_
  rintro e1 w1 ⟨rfl, hb⟩
  rw [H0.out]
  obtain ⟨k0, k1, HBo⟩ := arr_pt hb
  clear hb
  have q0 := cell0 0 k0 rfl; have q1 := cell0 1 k0 rfl; have q2 := cell0 2 k0 rfl; have q3 := cell0 3 k0 rfl; have q4 := cell0 4 k0 rfl; have q5 := cell0 5 k0 rfl; have q6 := cell0 0 k1 rfl; have q7 := cell0 1 k1 rfl
  clear k0 k1
  go_wp2_with fail
  refine (alive_any _).mono ?_
  rintro e1 w9 ⟨rfl, hb⟩
  replace q0 := cell_on hb q0; replace q1 := cell_on hb q1; replace q2 := cell_on hb q2; replace q3 := cell_on hb q3; replace q4 := cell_on hb q4; replace q5 := cell_on hb q5; replace q6 := cell_on hb q6; replace q7 := cell_on hb q7
  replace HBo := below_step HBo hb
  clear hb
  go_wp2_with fail
  go_ret
  exact ⟨rfl, HBo⟩

set_option maxHeartbeats 4000000 in
set_option maxRecDepth 100000 in
theorem parts_1 (w : World) (a b c e f g x y : Int) (h0 : rightB a b = true) (h1 : rightB c e = false) :
    Calls Try.prog 12 #[.agg #[.int .i64 a, .int .i64 b, .int .i64 c, .int .i64 e, .int .i64 f, .int .i64 g], .agg #[.int .i64 x, .int .i64 y]] w fun e1 w' => e1 = .returned (.bool true) ∧ Below w.heap.size w w' := by
  have H0 := Aside0.mk h0
  have H1 := Aside0.mk h1
  clear h0 h1
  have hu23 := Try.underlying23
  have hu29 := Try.underlying29
  go_enter Try.func12, Try.ntmps12
  go_wp2_with fail
  refine (refRight_any _ _ _).mono ?_
  rintro e1 w1 ⟨rfl, hb⟩
  rw [H0.out]
  obtain ⟨k0, k1, HBo⟩ := arr_pt hb
  clear hb
  have q0 := cell0 0 k0 rfl; have q1 := cell0 1 k0 rfl; have q2 := cell0 2 k0 rfl; have q3 := cell0 3 k0 rfl; have q4 := cell0 4 k0 rfl; have q5 := cell0 5 k0 rfl; have q6 := cell0 0 k1 rfl; have q7 := cell0 1 k1 rfl
  clear k0 k1
  go_wp2_with fail
  refine (refRight_any _ _ _).mono ?_
  rintro e1 w2 ⟨rfl, hb⟩
  rw [H1.out]
  replace q0 := cell_on hb q0; replace q1 := cell_on hb q1; replace q2 := cell_on hb q2; replace q3 := cell_on hb q3; replace q4 := cell_on hb q4; replace q5 := cell_on hb q5; replace q6 := cell_on hb q6; replace q7 := cell_on hb q7
  replace HBo := below_step HBo hb
  clear hb
  go_wp2_with fail
  refine (alive_any _).mono ?_
  rintro e1 w9 ⟨rfl, hb⟩
  replace q0 := cell_on hb q0; replace q1 := cell_on hb q1; replace q2 := cell_on hb q2; replace q3 := cell_on hb q3; replace q4 := cell_on hb q4; replace q5 := cell_on hb q5; replace q6 := cell_on hb q6; replace q7 := cell_on hb q7
  replace HBo := below_step HBo hb
  clear hb
  go_wp2_with fail
  go_ret
  exact ⟨rfl, HBo⟩

set_option maxHeartbeats 4000000 in
set_option maxRecDepth 100000 in
theorem parts_2 (w : World) (a b c e f g x y : Int) (h0 : rightB a b = true) (h1 : rightB c e = true) (h2 : rightB f g = false) :
    Calls Try.prog 12 #[.agg #[.int .i64 a, .int .i64 b, .int .i64 c, .int .i64 e, .int .i64 f, .int .i64 g], .agg #[.int .i64 x, .int .i64 y]] w fun e1 w' => e1 = .returned (.bool true) ∧ Below w.heap.size w w' := by
  have H0 := Aside0.mk h0
  have H1 := Aside0.mk h1
  have H2 := Aside0.mk h2
  clear h0 h1 h2
  have hu23 := Try.underlying23
  have hu29 := Try.underlying29
  go_enter Try.func12, Try.ntmps12
  go_wp2_with fail
  refine (refRight_any _ _ _).mono ?_
  rintro e1 w1 ⟨rfl, hb⟩
  rw [H0.out]
  obtain ⟨k0, k1, HBo⟩ := arr_pt hb
  clear hb
  have q0 := cell0 0 k0 rfl; have q1 := cell0 1 k0 rfl; have q2 := cell0 2 k0 rfl; have q3 := cell0 3 k0 rfl; have q4 := cell0 4 k0 rfl; have q5 := cell0 5 k0 rfl; have q6 := cell0 0 k1 rfl; have q7 := cell0 1 k1 rfl
  clear k0 k1
  go_wp2_with fail
  refine (refRight_any _ _ _).mono ?_
  rintro e1 w2 ⟨rfl, hb⟩
  rw [H1.out]
  replace q0 := cell_on hb q0; replace q1 := cell_on hb q1; replace q2 := cell_on hb q2; replace q3 := cell_on hb q3; replace q4 := cell_on hb q4; replace q5 := cell_on hb q5; replace q6 := cell_on hb q6; replace q7 := cell_on hb q7
  replace HBo := below_step HBo hb
  clear hb
  go_wp2_with fail
  refine (refRight_any _ _ _).mono ?_
  rintro e1 w3 ⟨rfl, hb⟩
  rw [H2.out]
  replace q0 := cell_on hb q0; replace q1 := cell_on hb q1; replace q2 := cell_on hb q2; replace q3 := cell_on hb q3; replace q4 := cell_on hb q4; replace q5 := cell_on hb q5; replace q6 := cell_on hb q6; replace q7 := cell_on hb q7
  replace HBo := below_step HBo hb
  clear hb
  go_wp2_with fail
  refine (alive_any _).mono ?_
  rintro e1 w9 ⟨rfl, hb⟩
  replace q0 := cell_on hb q0; replace q1 := cell_on hb q1; replace q2 := cell_on hb q2; replace q3 := cell_on hb q3; replace q4 := cell_on hb q4; replace q5 := cell_on hb q5; replace q6 := cell_on hb q6; replace q7 := cell_on hb q7
  replace HBo := below_step HBo hb
  clear hb
  go_wp2_with fail
  go_ret
  exact ⟨rfl, HBo⟩

set_option maxHeartbeats 4000000 in
set_option maxRecDepth 100000 in
theorem parts_3 (w : World) (a b c e f g x y : Int) (h0 : rightB a b = true) (h1 : rightB c e = true) (h2 : rightB f g = true) (h3 : rightB x y = false) :
    Calls Try.prog 12 #[.agg #[.int .i64 a, .int .i64 b, .int .i64 c, .int .i64 e, .int .i64 f, .int .i64 g], .agg #[.int .i64 x, .int .i64 y]] w fun e1 w' => e1 = .returned (.bool true) ∧ Below w.heap.size w w' := by
  have H0 := Aside0.mk h0
  have H1 := Aside0.mk h1
  have H2 := Aside0.mk h2
  have H3 := Aside0.mk h3
  clear h0 h1 h2 h3
  have hu23 := Try.underlying23
  have hu29 := Try.underlying29
  go_enter Try.func12, Try.ntmps12
  go_wp2_with fail
  refine (refRight_any _ _ _).mono ?_
  rintro e1 w1 ⟨rfl, hb⟩
  rw [H0.out]
  obtain ⟨k0, k1, HBo⟩ := arr_pt hb
  clear hb
  have q0 := cell0 0 k0 rfl; have q1 := cell0 1 k0 rfl; have q2 := cell0 2 k0 rfl; have q3 := cell0 3 k0 rfl; have q4 := cell0 4 k0 rfl; have q5 := cell0 5 k0 rfl; have q6 := cell0 0 k1 rfl; have q7 := cell0 1 k1 rfl
  clear k0 k1
  go_wp2_with fail
  refine (refRight_any _ _ _).mono ?_
  rintro e1 w2 ⟨rfl, hb⟩
  rw [H1.out]
  replace q0 := cell_on hb q0; replace q1 := cell_on hb q1; replace q2 := cell_on hb q2; replace q3 := cell_on hb q3; replace q4 := cell_on hb q4; replace q5 := cell_on hb q5; replace q6 := cell_on hb q6; replace q7 := cell_on hb q7
  replace HBo := below_step HBo hb
  clear hb
  go_wp2_with fail
  refine (refRight_any _ _ _).mono ?_
  rintro e1 w3 ⟨rfl, hb⟩
  rw [H2.out]
  replace q0 := cell_on hb q0; replace q1 := cell_on hb q1; replace q2 := cell_on hb q2; replace q3 := cell_on hb q3; replace q4 := cell_on hb q4; replace q5 := cell_on hb q5; replace q6 := cell_on hb q6; replace q7 := cell_on hb q7
  replace HBo := below_step HBo hb
  clear hb
  go_wp2_with fail
  refine (refRight_any _ _ _).mono ?_
  rintro e1 w4 ⟨rfl, hb⟩
  rw [H3.out]
  replace q0 := cell_on hb q0; replace q1 := cell_on hb q1; replace q2 := cell_on hb q2; replace q3 := cell_on hb q3; replace q4 := cell_on hb q4; replace q5 := cell_on hb q5; replace q6 := cell_on hb q6; replace q7 := cell_on hb q7
  replace HBo := below_step HBo hb
  clear hb
  go_wp2_with fail
  refine (alive_any _).mono ?_
  rintro e1 w9 ⟨rfl, hb⟩
  replace q0 := cell_on hb q0; replace q1 := cell_on hb q1; replace q2 := cell_on hb q2; replace q3 := cell_on hb q3; replace q4 := cell_on hb q4; replace q5 := cell_on hb q5; replace q6 := cell_on hb q6; replace q7 := cell_on hb q7
  replace HBo := below_step HBo hb
  clear hb
  go_wp2_with fail
  go_ret
  exact ⟨rfl, HBo⟩

set_option maxHeartbeats 4000000 in
set_option maxRecDepth 100000 in
theorem parts_4 (w : World) (a b c e f g x y : Int) (h0 : rightB a b = true) (h1 : rightB c e = true) (h2 : rightB f g = true) (h3 : rightB x y = true) :
    Calls Try.prog 12 #[.agg #[.int .i64 a, .int .i64 b, .int .i64 c, .int .i64 e, .int .i64 f, .int .i64 g], .agg #[.int .i64 x, .int .i64 y]] w fun e1 w' => e1 = .returned (.bool true) ∧ Below w.heap.size w w' := by
  have H0 := Aside0.mk h0
  have H1 := Aside0.mk h1
  have H2 := Aside0.mk h2
  have H3 := Aside0.mk h3
  have HS := Aside0.mk (parts_sum h0 h1 h2 h3)
  clear h0 h1 h2 h3
  have hu23 := Try.underlying23
  have hu29 := Try.underlying29
  go_enter Try.func12, Try.ntmps12
  go_wp2_with fail
  refine (refRight_any _ _ _).mono ?_
  rintro e1 w1 ⟨rfl, hb⟩
  rw [H0.out]
  obtain ⟨k0, k1, HBo⟩ := arr_pt hb
  clear hb
  have q0 := cell0 0 k0 rfl; have q1 := cell0 1 k0 rfl; have q2 := cell0 2 k0 rfl; have q3 := cell0 3 k0 rfl; have q4 := cell0 4 k0 rfl; have q5 := cell0 5 k0 rfl; have q6 := cell0 0 k1 rfl; have q7 := cell0 1 k1 rfl
  clear k0 k1
  go_wp2_with fail
  refine (refRight_any _ _ _).mono ?_
  rintro e1 w2 ⟨rfl, hb⟩
  rw [H1.out]
  replace q0 := cell_on hb q0; replace q1 := cell_on hb q1; replace q2 := cell_on hb q2; replace q3 := cell_on hb q3; replace q4 := cell_on hb q4; replace q5 := cell_on hb q5; replace q6 := cell_on hb q6; replace q7 := cell_on hb q7
  replace HBo := below_step HBo hb
  clear hb
  go_wp2_with fail
  refine (refRight_any _ _ _).mono ?_
  rintro e1 w3 ⟨rfl, hb⟩
  rw [H2.out]
  replace q0 := cell_on hb q0; replace q1 := cell_on hb q1; replace q2 := cell_on hb q2; replace q3 := cell_on hb q3; replace q4 := cell_on hb q4; replace q5 := cell_on hb q5; replace q6 := cell_on hb q6; replace q7 := cell_on hb q7
  replace HBo := below_step HBo hb
  clear hb
  go_wp2_with fail
  refine (refRight_any _ _ _).mono ?_
  rintro e1 w4 ⟨rfl, hb⟩
  rw [H3.out]
  replace q0 := cell_on hb q0; replace q1 := cell_on hb q1; replace q2 := cell_on hb q2; replace q3 := cell_on hb q3; replace q4 := cell_on hb q4; replace q5 := cell_on hb q5; replace q6 := cell_on hb q6; replace q7 := cell_on hb q7
  replace HBo := below_step HBo hb
  clear hb
  go_wp2_with fail
  go_region_held3 (fun w' => Below w.heap.size w w' ∧ w'.cell? ⟨w.heap.size, 0, none⟩ = some (.int .i64 a) ∧ w'.cell? ⟨w.heap.size, 1, none⟩ = some (.int .i64 b) ∧ w'.cell? ⟨w.heap.size, 2, none⟩ = some (.int .i64 c) ∧ w'.cell? ⟨w.heap.size, 3, none⟩ = some (.int .i64 e) ∧ w'.cell? ⟨w.heap.size, 4, none⟩ = some (.int .i64 f) ∧ w'.cell? ⟨w.heap.size, 5, none⟩ = some (.int .i64 g) ∧ w'.cell? ⟨w.heap.size + 1, 0, none⟩ = some (.int .i64 x) ∧ w'.cell? ⟨w.heap.size + 1, 1, none⟩ = some (.int .i64 y)) (first | (exact ⟨below_drew1 HBo, (World.cell?_drew _ _).trans q0, (World.cell?_drew _ _).trans q1, (World.cell?_drew _ _).trans q2, (World.cell?_drew _ _).trans q3, (World.cell?_drew _ _).trans q4, (World.cell?_drew _ _).trans q5, (World.cell?_drew _ _).trans q6, (World.cell?_drew _ _).trans q7⟩) | (have hH := ‹Below _ _ _ ∧ _›; exact ⟨below_step hH.1 ‹Below _ _ _›, cell_on ‹Below _ _ _› hH.2.1, cell_on ‹Below _ _ _› hH.2.2.1, cell_on ‹Below _ _ _› hH.2.2.2.1, cell_on ‹Below _ _ _› hH.2.2.2.2.1, cell_on ‹Below _ _ _› hH.2.2.2.2.2.1, cell_on ‹Below _ _ _› hH.2.2.2.2.2.2.1, cell_on ‹Below _ _ _› hH.2.2.2.2.2.2.2.1, cell_on ‹Below _ _ _› hH.2.2.2.2.2.2.2.2⟩) | (have hH := ‹Below _ _ _ ∧ _›; exact ⟨pw_below_drewN hH.1 _, hH.2.1, hH.2.2.1, hH.2.2.2.1, hH.2.2.2.2.1, hH.2.2.2.2.2.1, hH.2.2.2.2.2.2.1, hH.2.2.2.2.2.2.2.1, hH.2.2.2.2.2.2.2.2⟩)) (first | (go_at_call 18; refine (cross_any _ _ _ _ _ _ _).mono ?_; rintro e2 w2 ⟨rfl, hb2⟩))
  all_goals
    have hH := ‹Below _ _ _ ∧ _›
    obtain ⟨HBo, q0, q1, q2, q3, q4, q5, q6, q7⟩ := hH
    rw [HS.out]
    go_wp2_with fail
    refine (alive_any _).mono ?_
    rintro e1 w9 ⟨rfl, hb⟩
    replace q0 := cell_on hb q0; replace q1 := cell_on hb q1; replace q2 := cell_on hb q2; replace q3 := cell_on hb q3; replace q4 := cell_on hb q4; replace q5 := cell_on hb q5; replace q6 := cell_on hb q6; replace q7 := cell_on hb q7
    replace HBo := below_step HBo hb
    clear hb
    go_wp2_with fail
    refine (cross_any _ _ _ _ _ _ _).mono ?_
    rintro e1 w10 ⟨rfl, hb⟩
    replace HBo := below_step HBo hb
    clear hb
    go_wp2_with fail
    go_ret
    exact ⟨rfl, HBo⟩

theorem parts_walk (w : World) (a b c e f g x y : Int) (_ : -9223372036854775808 ≤ x ∧ x ≤ 9223372036854775807) (_ : -9223372036854775808 ≤ y ∧ y ≤ 9223372036854775807) :
    Calls Try.prog 12 #[.agg #[.int .i64 a, .int .i64 b, .int .i64 c, .int .i64 e, .int .i64 f, .int .i64 g], .agg #[.int .i64 x, .int .i64 y]] w fun e1 w' => e1 = .returned (.bool true) ∧ Below w.heap.size w w' := by
  cases h0 : rightB a b with
  | false => exact parts_0 w a b c e f g x y h0
  | true =>
    cases h1 : rightB c e with
    | false => exact parts_1 w a b c e f g x y h0 h1
    | true =>
      cases h2 : rightB f g with
      | false => exact parts_2 w a b c e f g x y h0 h1 h2
      | true =>
        cases h3 : rightB x y with
        | false => exact parts_3 w a b c e f g x y h0 h1 h2 h3
        | true => exact parts_4 w a b c e f g x y h0 h1 h2 h3
end Go.Proofs.Ytpfgjagpaddcpaa.Own
