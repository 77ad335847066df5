import Derived.Test.YtpfgjagpaddcpaaA2
/-! PlaneAround, walked: nine cases, by how the two points' numbers lie. -/
namespace Go.Proofs.Ytpfgjagpaddcpaa.Own
open Go.RowKit Go.Proofs.YtpfgjagpaddcpaaW.PrintWords Go.Proofs.YtpfgjagpaddcpaaW.PrintLast Go.Proofs.YtpfgjagpaddcpaaW.PrintMore
open Go.Proofs.Ytpfgjagpaddcpaa.X
set_option linter.unusedVariables false
set_option linter.unusedSimpArgs false
attribute [local go_sem high] eqA23 eqA33

/-- Two points boxed, and what a call leaves of them. -/
theorem two_pts {w w1 : World} {ax ay bx by_ : Int} (hb : Below ((w.alloc (.cells #[.int .i64 ax, .int .i64 ay] 23)).alloc (.cells #[.int .i64 bx, .int .i64 by_] 23)).heap.size ((w.alloc (.cells #[.int .i64 ax, .int .i64 ay] 23)).alloc (.cells #[.int .i64 bx, .int .i64 by_] 23)) w1) :
    w1.heap[w.heap.size]? = some (.cells #[.int .i64 ax, .int .i64 ay] 23 (0, 0)) ∧ w1.heap[w.heap.size + 1]? = some (.cells #[.int .i64 bx, .int .i64 by_] 23 (0, 0)) ∧ Below w.heap.size w w1 := by
  have n0 := blk_below (blk_alloc (blk_new w (.cells #[.int .i64 ax, .int .i64 ay] 23)) (.cells #[.int .i64 bx, .int .i64 by_] 23)) hb
  have n1 := blk_below (blk_new (w.alloc (.cells #[.int .i64 ax, .int .i64 ay] 23)) (.cells #[.int .i64 bx, .int .i64 by_] 23)) hb
  simp only [World.size_alloc] at n1
  exact ⟨n0, n1, below_then (below_alloc (below_alloc (Below.refl w.heap.size w) _) _) (by simp; omega) hb⟩

set_option maxHeartbeats 4000000 in
set_option maxRecDepth 100000 in
theorem around_lt_lt (ax ay bx by_ : Int) (w : World) (hx : ax < bx) (hy : ay < by_) :
    Calls Try.prog 9 #[.agg #[.int .i64 ax, .int .i64 ay], .agg #[.int .i64 bx, .int .i64 by_]] w fun e w' => e = .returned (.bool true) ∧ Below w.heap.size w w' := by
  have hu23 := Try.underlying23
  have hu33 := Try.underlying33
  have HQ := Aside0.mk (show boxV (mn ax bx) (mn ay by_) (mx ax bx) (mx ay by_) = .agg #[.int .i64 ax, .int .i64 ay, .int .i64 bx, .int .i64 by_] by unfold mn mx; repeat (first | rw [if_pos (by omega)] | rw [if_neg (by omega)]))
  have HR := Aside0.mk (show boxV (mn bx ax) (mn by_ ay) (mx bx ax) (mx by_ ay) = .agg #[.int .i64 ax, .int .i64 ay, .int .i64 bx, .int .i64 by_] by unfold mn mx; repeat (first | rw [if_pos (by omega)] | rw [if_neg (by omega)]))
  have HA := Aside0.mk (show holdsB ax ay bx by_ ax ay = true by unfold holdsB; rw [decide_eq_true_iff]; omega)
  have HB := Aside0.mk (show holdsB ax ay bx by_ bx by_ = true by unfold holdsB; rw [decide_eq_true_iff]; omega)
  have HCa := Aside0.mk (show cmpB ax ay bx by_ = -1 by unfold cmpB; repeat (first | rw [if_pos (by omega)] | rw [if_neg (by omega)]))
  have HC := Aside0.mk (show cmpB bx by_ ax ay = 1 by unfold cmpB; repeat (first | rw [if_pos (by omega)] | rw [if_neg (by omega)]))
  have u0 : (ax == bx) = false := by rw [beq_eq_false_iff_ne]; omega
  have u1 : (bx == ax) = false := by rw [beq_eq_false_iff_ne]; omega
  have u2 : decide (ax < bx) = true := by simp; omega
  have u3 : decide (bx < ax) = false := by simp; omega
  have v0 : (ay == by_) = false := by rw [beq_eq_false_iff_ne]; omega
  have v1 : (by_ == ay) = false := by rw [beq_eq_false_iff_ne]; omega
  have v2 : decide (ay < by_) = true := by simp; omega
  have v3 : decide (by_ < ay) = false := by simp; omega
  go_enter Try.func9, Try.ntmps9
  go_wp2_with fail
  refine (around_any _ _ _ _ _).mono ?_
  rintro e w1 ⟨rfl, hb⟩
  rw [HQ.out]
  obtain ⟨k0, k1, HBo⟩ := two_pts hb
  clear hb
  have q0 := cell0 0 k0 rfl; have q1 := cell0 1 k0 rfl; have q2 := cell0 0 k1 rfl; have q3 := cell0 1 k1 rfl
  have l0 := blk_lt k0; have l1 := blk_lt k1
  have e0 := Nat.ne_of_lt l0; have e1 := Nat.ne_of_lt l1
  have K0 := Aside0.mk k0; have K1 := Aside0.mk k1
  clear k0 k1
  go_wp2_with fail
  refine (cmp_any _ _ _ _ _).mono ?_
  rintro e w2 ⟨rfl, hb⟩
  rw [HCa.out]
  have m0 := blk_below (blk_alloc K0.out _) hb; have m1 := blk_below (blk_alloc K1.out _) hb; have m2 := blk_below (blk_new w1 _) hb; have m3 := below_step (below_alloc HBo _) hb
  clear hb K0 K1 HBo q0 q1 q2 q3 l0 l1 e0 e1
  generalize w1.heap.size = g at m2 ⊢
  have HBo := m3
  have q0 := cell0 0 m0 rfl; have q1 := cell0 1 m0 rfl; have q2 := cell0 0 m1 rfl; have q3 := cell0 1 m1 rfl; have q4 := cell0 0 m2 rfl; have q5 := cell0 1 m2 rfl; have q6 := cell0 2 m2 rfl; have q7 := cell0 3 m2 rfl
  clear m0 m1 m2 m3
  go_wp2_with fail
  go_region_held3 (fun w' => Below w.heap.size w w' ∧ w'.cell? ⟨w.heap.size, 0, none⟩ = some (.int .i64 ax) ∧ w'.cell? ⟨w.heap.size, 1, none⟩ = some (.int .i64 ay) ∧ w'.cell? ⟨w.heap.size + 1, 0, none⟩ = some (.int .i64 bx) ∧ w'.cell? ⟨w.heap.size + 1, 1, none⟩ = some (.int .i64 by_) ∧ w'.cell? ⟨g, 0, none⟩ = some (.int .i64 ax) ∧ w'.cell? ⟨g, 1, none⟩ = some (.int .i64 ay) ∧ w'.cell? ⟨g, 2, none⟩ = some (.int .i64 bx) ∧ w'.cell? ⟨g, 3, none⟩ = some (.int .i64 by_)) (first | (exact ⟨below_drew1 HBo, (World.cell?_drew _ _).trans q0, (World.cell?_drew _ _).trans q1, (World.cell?_drew _ _).trans q2, (World.cell?_drew _ _).trans q3, (World.cell?_drew _ _).trans q4, (World.cell?_drew _ _).trans q5, (World.cell?_drew _ _).trans q6, (World.cell?_drew _ _).trans q7⟩) | (have hH := ‹Below _ _ _ ∧ _›; exact ⟨below_step hH.1 ‹Below _ _ _›, cell_on ‹Below _ _ _› hH.2.1, cell_on ‹Below _ _ _› hH.2.2.1, cell_on ‹Below _ _ _› hH.2.2.2.1, cell_on ‹Below _ _ _› hH.2.2.2.2.1, cell_on ‹Below _ _ _› hH.2.2.2.2.2.1, cell_on ‹Below _ _ _› hH.2.2.2.2.2.2.1, cell_on ‹Below _ _ _› hH.2.2.2.2.2.2.2.1, cell_on ‹Below _ _ _› hH.2.2.2.2.2.2.2.2⟩) | (have hH := ‹Below _ _ _ ∧ _›; exact ⟨pw_below_drewN hH.1 _, hH.2.1, hH.2.2.1, hH.2.2.2.1, hH.2.2.2.2.1, hH.2.2.2.2.2.1, hH.2.2.2.2.2.2.1, hH.2.2.2.2.2.2.2.1, hH.2.2.2.2.2.2.2.2⟩)) (first | (go_at_call 19; refine (alive_any _).mono ?_; rintro e w2 ⟨rfl, hb2⟩) | (go_at_call 28; refine (holds_any _ _ _ _ _ _ _).mono ?_; rintro e w2 ⟨rfl, hb2⟩; (first | rw [HA.out] | rw [HB.out])) | (go_at_call 29; refine (around_any _ _ _ _ _).mono ?_; rintro e w2 ⟨rfl, hb2⟩; rw [HR.out]) | (go_at_call 41; refine (cmp_any _ _ _ _ _).mono ?_; rintro e w2 ⟨rfl, hb2⟩; rw [HC.out]))
  all_goals (go_wp2_with fail; go_ret; exact ⟨rfl, (‹Below _ _ _ ∧ _›).1⟩)

set_option maxHeartbeats 4000000 in
set_option maxRecDepth 100000 in
theorem around_lt_eq (ax ay bx : Int) (w : World) (hx : ax < bx) :
    Calls Try.prog 9 #[.agg #[.int .i64 ax, .int .i64 ay], .agg #[.int .i64 bx, .int .i64 ay]] w fun e w' => e = .returned (.bool true) ∧ Below w.heap.size w w' := by
  have hu23 := Try.underlying23
  have hu33 := Try.underlying33
  have HQ := Aside0.mk (show boxV (mn ax bx) (mn ay ay) (mx ax bx) (mx ay ay) = .agg #[.int .i64 ax, .int .i64 ay, .int .i64 bx, .int .i64 ay] by unfold mn mx; repeat (first | rw [if_pos (by omega)] | rw [if_neg (by omega)]))
  have HR := Aside0.mk (show boxV (mn bx ax) (mn ay ay) (mx bx ax) (mx ay ay) = .agg #[.int .i64 ax, .int .i64 ay, .int .i64 bx, .int .i64 ay] by unfold mn mx; repeat (first | rw [if_pos (by omega)] | rw [if_neg (by omega)]))
  have HA := Aside0.mk (show holdsB ax ay bx ay ax ay = true by unfold holdsB; rw [decide_eq_true_iff]; omega)
  have HB := Aside0.mk (show holdsB ax ay bx ay bx ay = true by unfold holdsB; rw [decide_eq_true_iff]; omega)
  have HCa := Aside0.mk (show cmpB ax ay bx ay = -1 by unfold cmpB; repeat (first | rw [if_pos (by omega)] | rw [if_neg (by omega)]))
  have HC := Aside0.mk (show cmpB bx ay ax ay = 1 by unfold cmpB; repeat (first | rw [if_pos (by omega)] | rw [if_neg (by omega)]))
  have u0 : (ax == bx) = false := by rw [beq_eq_false_iff_ne]; omega
  have u1 : (bx == ax) = false := by rw [beq_eq_false_iff_ne]; omega
  have u2 : decide (ax < bx) = true := by simp; omega
  have u3 : decide (bx < ax) = false := by simp; omega
  go_enter Try.func9, Try.ntmps9
  go_wp2_with fail
  refine (around_any _ _ _ _ _).mono ?_
  rintro e w1 ⟨rfl, hb⟩
  rw [HQ.out]
  obtain ⟨k0, k1, HBo⟩ := two_pts hb
  clear hb
  have q0 := cell0 0 k0 rfl; have q1 := cell0 1 k0 rfl; have q2 := cell0 0 k1 rfl; have q3 := cell0 1 k1 rfl
  have l0 := blk_lt k0; have l1 := blk_lt k1
  have e0 := Nat.ne_of_lt l0; have e1 := Nat.ne_of_lt l1
  have K0 := Aside0.mk k0; have K1 := Aside0.mk k1
  clear k0 k1
  go_wp2_with fail
  refine (cmp_any _ _ _ _ _).mono ?_
  rintro e w2 ⟨rfl, hb⟩
  rw [HCa.out]
  have m0 := blk_below (blk_alloc K0.out _) hb; have m1 := blk_below (blk_alloc K1.out _) hb; have m2 := blk_below (blk_new w1 _) hb; have m3 := below_step (below_alloc HBo _) hb
  clear hb K0 K1 HBo q0 q1 q2 q3 l0 l1 e0 e1
  generalize w1.heap.size = g at m2 ⊢
  have HBo := m3
  have q0 := cell0 0 m0 rfl; have q1 := cell0 1 m0 rfl; have q2 := cell0 0 m1 rfl; have q3 := cell0 1 m1 rfl; have q4 := cell0 0 m2 rfl; have q5 := cell0 1 m2 rfl; have q6 := cell0 2 m2 rfl; have q7 := cell0 3 m2 rfl
  clear m0 m1 m2 m3
  go_wp2_with fail
  go_region_held3 (fun w' => Below w.heap.size w w' ∧ w'.cell? ⟨w.heap.size, 0, none⟩ = some (.int .i64 ax) ∧ w'.cell? ⟨w.heap.size, 1, none⟩ = some (.int .i64 ay) ∧ w'.cell? ⟨w.heap.size + 1, 0, none⟩ = some (.int .i64 bx) ∧ w'.cell? ⟨w.heap.size + 1, 1, none⟩ = some (.int .i64 ay) ∧ w'.cell? ⟨g, 0, none⟩ = some (.int .i64 ax) ∧ w'.cell? ⟨g, 1, none⟩ = some (.int .i64 ay) ∧ w'.cell? ⟨g, 2, none⟩ = some (.int .i64 bx) ∧ w'.cell? ⟨g, 3, none⟩ = some (.int .i64 ay)) (first | (exact ⟨below_drew1 HBo, (World.cell?_drew _ _).trans q0, (World.cell?_drew _ _).trans q1, (World.cell?_drew _ _).trans q2, (World.cell?_drew _ _).trans q3, (World.cell?_drew _ _).trans q4, (World.cell?_drew _ _).trans q5, (World.cell?_drew _ _).trans q6, (World.cell?_drew _ _).trans q7⟩) | (have hH := ‹Below _ _ _ ∧ _›; exact ⟨below_step hH.1 ‹Below _ _ _›, cell_on ‹Below _ _ _› hH.2.1, cell_on ‹Below _ _ _› hH.2.2.1, cell_on ‹Below _ _ _› hH.2.2.2.1, cell_on ‹Below _ _ _› hH.2.2.2.2.1, cell_on ‹Below _ _ _› hH.2.2.2.2.2.1, cell_on ‹Below _ _ _› hH.2.2.2.2.2.2.1, cell_on ‹Below _ _ _› hH.2.2.2.2.2.2.2.1, cell_on ‹Below _ _ _› hH.2.2.2.2.2.2.2.2⟩) | (have hH := ‹Below _ _ _ ∧ _›; exact ⟨pw_below_drewN hH.1 _, hH.2.1, hH.2.2.1, hH.2.2.2.1, hH.2.2.2.2.1, hH.2.2.2.2.2.1, hH.2.2.2.2.2.2.1, hH.2.2.2.2.2.2.2.1, hH.2.2.2.2.2.2.2.2⟩)) (first | (go_at_call 19; refine (alive_any _).mono ?_; rintro e w2 ⟨rfl, hb2⟩) | (go_at_call 28; refine (holds_any _ _ _ _ _ _ _).mono ?_; rintro e w2 ⟨rfl, hb2⟩; (first | rw [HA.out] | rw [HB.out])) | (go_at_call 29; refine (around_any _ _ _ _ _).mono ?_; rintro e w2 ⟨rfl, hb2⟩; rw [HR.out]) | (go_at_call 41; refine (cmp_any _ _ _ _ _).mono ?_; rintro e w2 ⟨rfl, hb2⟩; rw [HC.out]))
  all_goals (go_wp2_with fail; go_ret; exact ⟨rfl, (‹Below _ _ _ ∧ _›).1⟩)

set_option maxHeartbeats 4000000 in
set_option maxRecDepth 100000 in
theorem around_lt_gt (ax ay bx by_ : Int) (w : World) (hx : ax < bx) (hy : by_ < ay) :
    Calls Try.prog 9 #[.agg #[.int .i64 ax, .int .i64 ay], .agg #[.int .i64 bx, .int .i64 by_]] w fun e w' => e = .returned (.bool true) ∧ Below w.heap.size w w' := by
  have hu23 := Try.underlying23
  have hu33 := Try.underlying33
  have HQ := Aside0.mk (show boxV (mn ax bx) (mn ay by_) (mx ax bx) (mx ay by_) = .agg #[.int .i64 ax, .int .i64 by_, .int .i64 bx, .int .i64 ay] by unfold mn mx; repeat (first | rw [if_pos (by omega)] | rw [if_neg (by omega)]))
  have HR := Aside0.mk (show boxV (mn bx ax) (mn by_ ay) (mx bx ax) (mx by_ ay) = .agg #[.int .i64 ax, .int .i64 by_, .int .i64 bx, .int .i64 ay] by unfold mn mx; repeat (first | rw [if_pos (by omega)] | rw [if_neg (by omega)]))
  have HA := Aside0.mk (show holdsB ax by_ bx ay ax ay = true by unfold holdsB; rw [decide_eq_true_iff]; omega)
  have HB := Aside0.mk (show holdsB ax by_ bx ay bx by_ = true by unfold holdsB; rw [decide_eq_true_iff]; omega)
  have HCa := Aside0.mk (show cmpB ax ay bx by_ = -1 by unfold cmpB; repeat (first | rw [if_pos (by omega)] | rw [if_neg (by omega)]))
  have HC := Aside0.mk (show cmpB bx by_ ax ay = 1 by unfold cmpB; repeat (first | rw [if_pos (by omega)] | rw [if_neg (by omega)]))
  have u0 : (ax == bx) = false := by rw [beq_eq_false_iff_ne]; omega
  have u1 : (bx == ax) = false := by rw [beq_eq_false_iff_ne]; omega
  have u2 : decide (ax < bx) = true := by simp; omega
  have u3 : decide (bx < ax) = false := by simp; omega
  have v0 : (ay == by_) = false := by rw [beq_eq_false_iff_ne]; omega
  have v1 : (by_ == ay) = false := by rw [beq_eq_false_iff_ne]; omega
  have v2 : decide (ay < by_) = false := by simp; omega
  have v3 : decide (by_ < ay) = true := by simp; omega
  go_enter Try.func9, Try.ntmps9
  go_wp2_with fail
  refine (around_any _ _ _ _ _).mono ?_
  rintro e w1 ⟨rfl, hb⟩
  rw [HQ.out]
  obtain ⟨k0, k1, HBo⟩ := two_pts hb
  clear hb
  have q0 := cell0 0 k0 rfl; have q1 := cell0 1 k0 rfl; have q2 := cell0 0 k1 rfl; have q3 := cell0 1 k1 rfl
  have l0 := blk_lt k0; have l1 := blk_lt k1
  have e0 := Nat.ne_of_lt l0; have e1 := Nat.ne_of_lt l1
  have K0 := Aside0.mk k0; have K1 := Aside0.mk k1
  clear k0 k1
  go_wp2_with fail
  refine (cmp_any _ _ _ _ _).mono ?_
  rintro e w2 ⟨rfl, hb⟩
  rw [HCa.out]
  have m0 := blk_below (blk_alloc K0.out _) hb; have m1 := blk_below (blk_alloc K1.out _) hb; have m2 := blk_below (blk_new w1 _) hb; have m3 := below_step (below_alloc HBo _) hb
  clear hb K0 K1 HBo q0 q1 q2 q3 l0 l1 e0 e1
  generalize w1.heap.size = g at m2 ⊢
  have HBo := m3
  have q0 := cell0 0 m0 rfl; have q1 := cell0 1 m0 rfl; have q2 := cell0 0 m1 rfl; have q3 := cell0 1 m1 rfl; have q4 := cell0 0 m2 rfl; have q5 := cell0 1 m2 rfl; have q6 := cell0 2 m2 rfl; have q7 := cell0 3 m2 rfl
  clear m0 m1 m2 m3
  go_wp2_with fail
  go_region_held3 (fun w' => Below w.heap.size w w' ∧ w'.cell? ⟨w.heap.size, 0, none⟩ = some (.int .i64 ax) ∧ w'.cell? ⟨w.heap.size, 1, none⟩ = some (.int .i64 ay) ∧ w'.cell? ⟨w.heap.size + 1, 0, none⟩ = some (.int .i64 bx) ∧ w'.cell? ⟨w.heap.size + 1, 1, none⟩ = some (.int .i64 by_) ∧ w'.cell? ⟨g, 0, none⟩ = some (.int .i64 ax) ∧ w'.cell? ⟨g, 1, none⟩ = some (.int .i64 by_) ∧ w'.cell? ⟨g, 2, none⟩ = some (.int .i64 bx) ∧ w'.cell? ⟨g, 3, none⟩ = some (.int .i64 ay)) (first | (exact ⟨below_drew1 HBo, (World.cell?_drew _ _).trans q0, (World.cell?_drew _ _).trans q1, (World.cell?_drew _ _).trans q2, (World.cell?_drew _ _).trans q3, (World.cell?_drew _ _).trans q4, (World.cell?_drew _ _).trans q5, (World.cell?_drew _ _).trans q6, (World.cell?_drew _ _).trans q7⟩) | (have hH := ‹Below _ _ _ ∧ _›; exact ⟨below_step hH.1 ‹Below _ _ _›, cell_on ‹Below _ _ _› hH.2.1, cell_on ‹Below _ _ _› hH.2.2.1, cell_on ‹Below _ _ _› hH.2.2.2.1, cell_on ‹Below _ _ _› hH.2.2.2.2.1, cell_on ‹Below _ _ _› hH.2.2.2.2.2.1, cell_on ‹Below _ _ _› hH.2.2.2.2.2.2.1, cell_on ‹Below _ _ _› hH.2.2.2.2.2.2.2.1, cell_on ‹Below _ _ _› hH.2.2.2.2.2.2.2.2⟩) | (have hH := ‹Below _ _ _ ∧ _›; exact ⟨pw_below_drewN hH.1 _, hH.2.1, hH.2.2.1, hH.2.2.2.1, hH.2.2.2.2.1, hH.2.2.2.2.2.1, hH.2.2.2.2.2.2.1, hH.2.2.2.2.2.2.2.1, hH.2.2.2.2.2.2.2.2⟩)) (first | (go_at_call 19; refine (alive_any _).mono ?_; rintro e w2 ⟨rfl, hb2⟩) | (go_at_call 28; refine (holds_any _ _ _ _ _ _ _).mono ?_; rintro e w2 ⟨rfl, hb2⟩; (first | rw [HA.out] | rw [HB.out])) | (go_at_call 29; refine (around_any _ _ _ _ _).mono ?_; rintro e w2 ⟨rfl, hb2⟩; rw [HR.out]) | (go_at_call 41; refine (cmp_any _ _ _ _ _).mono ?_; rintro e w2 ⟨rfl, hb2⟩; rw [HC.out]))
  all_goals (go_wp2_with fail; go_ret; exact ⟨rfl, (‹Below _ _ _ ∧ _›).1⟩)

set_option maxHeartbeats 4000000 in
set_option maxRecDepth 100000 in
theorem around_eq_lt (ax ay by_ : Int) (w : World) (hy : ay < by_) :
    Calls Try.prog 9 #[.agg #[.int .i64 ax, .int .i64 ay], .agg #[.int .i64 ax, .int .i64 by_]] w fun e w' => e = .returned (.bool true) ∧ Below w.heap.size w w' := by
  have hu23 := Try.underlying23
  have hu33 := Try.underlying33
  have HQ := Aside0.mk (show boxV (mn ax ax) (mn ay by_) (mx ax ax) (mx ay by_) = .agg #[.int .i64 ax, .int .i64 ay, .int .i64 ax, .int .i64 by_] by unfold mn mx; repeat (first | rw [if_pos (by omega)] | rw [if_neg (by omega)]))
  have HR := Aside0.mk (show boxV (mn ax ax) (mn by_ ay) (mx ax ax) (mx by_ ay) = .agg #[.int .i64 ax, .int .i64 ay, .int .i64 ax, .int .i64 by_] by unfold mn mx; repeat (first | rw [if_pos (by omega)] | rw [if_neg (by omega)]))
  have HA := Aside0.mk (show holdsB ax ay ax by_ ax ay = true by unfold holdsB; rw [decide_eq_true_iff]; omega)
  have HB := Aside0.mk (show holdsB ax ay ax by_ ax by_ = true by unfold holdsB; rw [decide_eq_true_iff]; omega)
  have HCa := Aside0.mk (show cmpB ax ay ax by_ = -1 by unfold cmpB; repeat (first | rw [if_pos (by omega)] | rw [if_neg (by omega)]))
  have HC := Aside0.mk (show cmpB ax by_ ax ay = 1 by unfold cmpB; repeat (first | rw [if_pos (by omega)] | rw [if_neg (by omega)]))
  have v0 : (ay == by_) = false := by rw [beq_eq_false_iff_ne]; omega
  have v1 : (by_ == ay) = false := by rw [beq_eq_false_iff_ne]; omega
  have v2 : decide (ay < by_) = true := by simp; omega
  have v3 : decide (by_ < ay) = false := by simp; omega
  go_enter Try.func9, Try.ntmps9
  go_wp2_with fail
  refine (around_any _ _ _ _ _).mono ?_
  rintro e w1 ⟨rfl, hb⟩
  rw [HQ.out]
  obtain ⟨k0, k1, HBo⟩ := two_pts hb
  clear hb
  have q0 := cell0 0 k0 rfl; have q1 := cell0 1 k0 rfl; have q2 := cell0 0 k1 rfl; have q3 := cell0 1 k1 rfl
  have l0 := blk_lt k0; have l1 := blk_lt k1
  have e0 := Nat.ne_of_lt l0; have e1 := Nat.ne_of_lt l1
  have K0 := Aside0.mk k0; have K1 := Aside0.mk k1
  clear k0 k1
  go_wp2_with fail
  refine (cmp_any _ _ _ _ _).mono ?_
  rintro e w2 ⟨rfl, hb⟩
  rw [HCa.out]
  have m0 := blk_below (blk_alloc K0.out _) hb; have m1 := blk_below (blk_alloc K1.out _) hb; have m2 := blk_below (blk_new w1 _) hb; have m3 := below_step (below_alloc HBo _) hb
  clear hb K0 K1 HBo q0 q1 q2 q3 l0 l1 e0 e1
  generalize w1.heap.size = g at m2 ⊢
  have HBo := m3
  have q0 := cell0 0 m0 rfl; have q1 := cell0 1 m0 rfl; have q2 := cell0 0 m1 rfl; have q3 := cell0 1 m1 rfl; have q4 := cell0 0 m2 rfl; have q5 := cell0 1 m2 rfl; have q6 := cell0 2 m2 rfl; have q7 := cell0 3 m2 rfl
  clear m0 m1 m2 m3
  go_wp2_with fail
  go_region_held3 (fun w' => Below w.heap.size w w' ∧ w'.cell? ⟨w.heap.size, 0, none⟩ = some (.int .i64 ax) ∧ w'.cell? ⟨w.heap.size, 1, none⟩ = some (.int .i64 ay) ∧ w'.cell? ⟨w.heap.size + 1, 0, none⟩ = some (.int .i64 ax) ∧ w'.cell? ⟨w.heap.size + 1, 1, none⟩ = some (.int .i64 by_) ∧ w'.cell? ⟨g, 0, none⟩ = some (.int .i64 ax) ∧ w'.cell? ⟨g, 1, none⟩ = some (.int .i64 ay) ∧ w'.cell? ⟨g, 2, none⟩ = some (.int .i64 ax) ∧ w'.cell? ⟨g, 3, none⟩ = some (.int .i64 by_)) (first | (exact ⟨below_drew1 HBo, (World.cell?_drew _ _).trans q0, (World.cell?_drew _ _).trans q1, (World.cell?_drew _ _).trans q2, (World.cell?_drew _ _).trans q3, (World.cell?_drew _ _).trans q4, (World.cell?_drew _ _).trans q5, (World.cell?_drew _ _).trans q6, (World.cell?_drew _ _).trans q7⟩) | (have hH := ‹Below _ _ _ ∧ _›; exact ⟨below_step hH.1 ‹Below _ _ _›, cell_on ‹Below _ _ _› hH.2.1, cell_on ‹Below _ _ _› hH.2.2.1, cell_on ‹Below _ _ _› hH.2.2.2.1, cell_on ‹Below _ _ _› hH.2.2.2.2.1, cell_on ‹Below _ _ _› hH.2.2.2.2.2.1, cell_on ‹Below _ _ _› hH.2.2.2.2.2.2.1, cell_on ‹Below _ _ _› hH.2.2.2.2.2.2.2.1, cell_on ‹Below _ _ _› hH.2.2.2.2.2.2.2.2⟩) | (have hH := ‹Below _ _ _ ∧ _›; exact ⟨pw_below_drewN hH.1 _, hH.2.1, hH.2.2.1, hH.2.2.2.1, hH.2.2.2.2.1, hH.2.2.2.2.2.1, hH.2.2.2.2.2.2.1, hH.2.2.2.2.2.2.2.1, hH.2.2.2.2.2.2.2.2⟩)) (first | (go_at_call 19; refine (alive_any _).mono ?_; rintro e w2 ⟨rfl, hb2⟩) | (go_at_call 28; refine (holds_any _ _ _ _ _ _ _).mono ?_; rintro e w2 ⟨rfl, hb2⟩; (first | rw [HA.out] | rw [HB.out])) | (go_at_call 29; refine (around_any _ _ _ _ _).mono ?_; rintro e w2 ⟨rfl, hb2⟩; rw [HR.out]) | (go_at_call 41; refine (cmp_any _ _ _ _ _).mono ?_; rintro e w2 ⟨rfl, hb2⟩; rw [HC.out]))
  all_goals (go_wp2_with fail; go_ret; exact ⟨rfl, (‹Below _ _ _ ∧ _›).1⟩)

set_option maxHeartbeats 4000000 in
set_option maxRecDepth 100000 in
theorem around_eq_eq (ax ay : Int) (w : World) :
    Calls Try.prog 9 #[.agg #[.int .i64 ax, .int .i64 ay], .agg #[.int .i64 ax, .int .i64 ay]] w fun e w' => e = .returned (.bool true) ∧ Below w.heap.size w w' := by
  have hu23 := Try.underlying23
  have hu33 := Try.underlying33
  have HQ := Aside0.mk (show boxV (mn ax ax) (mn ay ay) (mx ax ax) (mx ay ay) = .agg #[.int .i64 ax, .int .i64 ay, .int .i64 ax, .int .i64 ay] by unfold mn mx; repeat (first | rw [if_pos (by omega)] | rw [if_neg (by omega)]))
  have HR := Aside0.mk (show boxV (mn ax ax) (mn ay ay) (mx ax ax) (mx ay ay) = .agg #[.int .i64 ax, .int .i64 ay, .int .i64 ax, .int .i64 ay] by unfold mn mx; repeat (first | rw [if_pos (by omega)] | rw [if_neg (by omega)]))
  have HA := Aside0.mk (show holdsB ax ay ax ay ax ay = true by unfold holdsB; rw [decide_eq_true_iff]; omega)
  have HB := Aside0.mk (show holdsB ax ay ax ay ax ay = true by unfold holdsB; rw [decide_eq_true_iff]; omega)
  have HCa := Aside0.mk (show cmpB ax ay ax ay = 0 by unfold cmpB; repeat (first | rw [if_pos (by omega)] | rw [if_neg (by omega)]))
  have HC := Aside0.mk (show cmpB ax ay ax ay = 0 by unfold cmpB; repeat (first | rw [if_pos (by omega)] | rw [if_neg (by omega)]))
  go_enter Try.func9, Try.ntmps9
  go_wp2_with fail
  refine (around_any _ _ _ _ _).mono ?_
  rintro e w1 ⟨rfl, hb⟩
  rw [HQ.out]
  obtain ⟨k0, k1, HBo⟩ := two_pts hb
  clear hb
  have q0 := cell0 0 k0 rfl; have q1 := cell0 1 k0 rfl; have q2 := cell0 0 k1 rfl; have q3 := cell0 1 k1 rfl
  have l0 := blk_lt k0; have l1 := blk_lt k1
  have e0 := Nat.ne_of_lt l0; have e1 := Nat.ne_of_lt l1
  have K0 := Aside0.mk k0; have K1 := Aside0.mk k1
  clear k0 k1
  go_wp2_with fail
  refine (cmp_any _ _ _ _ _).mono ?_
  rintro e w2 ⟨rfl, hb⟩
  rw [HCa.out]
  have m0 := blk_below (blk_alloc K0.out _) hb; have m1 := blk_below (blk_alloc K1.out _) hb; have m2 := blk_below (blk_new w1 _) hb; have m3 := below_step (below_alloc HBo _) hb
  clear hb K0 K1 HBo q0 q1 q2 q3 l0 l1 e0 e1
  generalize w1.heap.size = g at m2 ⊢
  have HBo := m3
  have q0 := cell0 0 m0 rfl; have q1 := cell0 1 m0 rfl; have q2 := cell0 0 m1 rfl; have q3 := cell0 1 m1 rfl; have q4 := cell0 0 m2 rfl; have q5 := cell0 1 m2 rfl; have q6 := cell0 2 m2 rfl; have q7 := cell0 3 m2 rfl
  clear m0 m1 m2 m3
  go_wp2_with fail
  go_region_held3 (fun w' => Below w.heap.size w w' ∧ w'.cell? ⟨w.heap.size, 0, none⟩ = some (.int .i64 ax) ∧ w'.cell? ⟨w.heap.size, 1, none⟩ = some (.int .i64 ay) ∧ w'.cell? ⟨w.heap.size + 1, 0, none⟩ = some (.int .i64 ax) ∧ w'.cell? ⟨w.heap.size + 1, 1, none⟩ = some (.int .i64 ay) ∧ w'.cell? ⟨g, 0, none⟩ = some (.int .i64 ax) ∧ w'.cell? ⟨g, 1, none⟩ = some (.int .i64 ay) ∧ w'.cell? ⟨g, 2, none⟩ = some (.int .i64 ax) ∧ w'.cell? ⟨g, 3, none⟩ = some (.int .i64 ay)) (first | (exact ⟨below_drew1 HBo, (World.cell?_drew _ _).trans q0, (World.cell?_drew _ _).trans q1, (World.cell?_drew _ _).trans q2, (World.cell?_drew _ _).trans q3, (World.cell?_drew _ _).trans q4, (World.cell?_drew _ _).trans q5, (World.cell?_drew _ _).trans q6, (World.cell?_drew _ _).trans q7⟩) | (have hH := ‹Below _ _ _ ∧ _›; exact ⟨below_step hH.1 ‹Below _ _ _›, cell_on ‹Below _ _ _› hH.2.1, cell_on ‹Below _ _ _› hH.2.2.1, cell_on ‹Below _ _ _› hH.2.2.2.1, cell_on ‹Below _ _ _› hH.2.2.2.2.1, cell_on ‹Below _ _ _› hH.2.2.2.2.2.1, cell_on ‹Below _ _ _› hH.2.2.2.2.2.2.1, cell_on ‹Below _ _ _› hH.2.2.2.2.2.2.2.1, cell_on ‹Below _ _ _› hH.2.2.2.2.2.2.2.2⟩) | (have hH := ‹Below _ _ _ ∧ _›; exact ⟨pw_below_drewN hH.1 _, hH.2.1, hH.2.2.1, hH.2.2.2.1, hH.2.2.2.2.1, hH.2.2.2.2.2.1, hH.2.2.2.2.2.2.1, hH.2.2.2.2.2.2.2.1, hH.2.2.2.2.2.2.2.2⟩)) (first | (go_at_call 19; refine (alive_any _).mono ?_; rintro e w2 ⟨rfl, hb2⟩) | (go_at_call 28; refine (holds_any _ _ _ _ _ _ _).mono ?_; rintro e w2 ⟨rfl, hb2⟩; (first | rw [HA.out] | rw [HB.out])) | (go_at_call 29; refine (around_any _ _ _ _ _).mono ?_; rintro e w2 ⟨rfl, hb2⟩; rw [HR.out]) | (go_at_call 41; refine (cmp_any _ _ _ _ _).mono ?_; rintro e w2 ⟨rfl, hb2⟩; rw [HC.out]))
  all_goals (go_wp2_with fail; go_ret; exact ⟨rfl, (‹Below _ _ _ ∧ _›).1⟩)

set_option maxHeartbeats 4000000 in
set_option maxRecDepth 100000 in
theorem around_eq_gt (ax ay by_ : Int) (w : World) (hy : by_ < ay) :
    Calls Try.prog 9 #[.agg #[.int .i64 ax, .int .i64 ay], .agg #[.int .i64 ax, .int .i64 by_]] w fun e w' => e = .returned (.bool true) ∧ Below w.heap.size w w' := by
  have hu23 := Try.underlying23
  have hu33 := Try.underlying33
  have HQ := Aside0.mk (show boxV (mn ax ax) (mn ay by_) (mx ax ax) (mx ay by_) = .agg #[.int .i64 ax, .int .i64 by_, .int .i64 ax, .int .i64 ay] by unfold mn mx; repeat (first | rw [if_pos (by omega)] | rw [if_neg (by omega)]))
  have HR := Aside0.mk (show boxV (mn ax ax) (mn by_ ay) (mx ax ax) (mx by_ ay) = .agg #[.int .i64 ax, .int .i64 by_, .int .i64 ax, .int .i64 ay] by unfold mn mx; repeat (first | rw [if_pos (by omega)] | rw [if_neg (by omega)]))
  have HA := Aside0.mk (show holdsB ax by_ ax ay ax ay = true by unfold holdsB; rw [decide_eq_true_iff]; omega)
  have HB := Aside0.mk (show holdsB ax by_ ax ay ax by_ = true by unfold holdsB; rw [decide_eq_true_iff]; omega)
  have HCa := Aside0.mk (show cmpB ax ay ax by_ = 1 by unfold cmpB; repeat (first | rw [if_pos (by omega)] | rw [if_neg (by omega)]))
  have HC := Aside0.mk (show cmpB ax by_ ax ay = -1 by unfold cmpB; repeat (first | rw [if_pos (by omega)] | rw [if_neg (by omega)]))
  have v0 : (ay == by_) = false := by rw [beq_eq_false_iff_ne]; omega
  have v1 : (by_ == ay) = false := by rw [beq_eq_false_iff_ne]; omega
  have v2 : decide (ay < by_) = false := by simp; omega
  have v3 : decide (by_ < ay) = true := by simp; omega
  go_enter Try.func9, Try.ntmps9
  go_wp2_with fail
  refine (around_any _ _ _ _ _).mono ?_
  rintro e w1 ⟨rfl, hb⟩
  rw [HQ.out]
  obtain ⟨k0, k1, HBo⟩ := two_pts hb
  clear hb
  have q0 := cell0 0 k0 rfl; have q1 := cell0 1 k0 rfl; have q2 := cell0 0 k1 rfl; have q3 := cell0 1 k1 rfl
  have l0 := blk_lt k0; have l1 := blk_lt k1
  have e0 := Nat.ne_of_lt l0; have e1 := Nat.ne_of_lt l1
  have K0 := Aside0.mk k0; have K1 := Aside0.mk k1
  clear k0 k1
  go_wp2_with fail
  refine (cmp_any _ _ _ _ _).mono ?_
  rintro e w2 ⟨rfl, hb⟩
  rw [HCa.out]
  have m0 := blk_below (blk_alloc K0.out _) hb; have m1 := blk_below (blk_alloc K1.out _) hb; have m2 := blk_below (blk_new w1 _) hb; have m3 := below_step (below_alloc HBo _) hb
  clear hb K0 K1 HBo q0 q1 q2 q3 l0 l1 e0 e1
  generalize w1.heap.size = g at m2 ⊢
  have HBo := m3
  have q0 := cell0 0 m0 rfl; have q1 := cell0 1 m0 rfl; have q2 := cell0 0 m1 rfl; have q3 := cell0 1 m1 rfl; have q4 := cell0 0 m2 rfl; have q5 := cell0 1 m2 rfl; have q6 := cell0 2 m2 rfl; have q7 := cell0 3 m2 rfl
  clear m0 m1 m2 m3
  go_wp2_with fail
  go_region_held3 (fun w' => Below w.heap.size w w' ∧ w'.cell? ⟨w.heap.size, 0, none⟩ = some (.int .i64 ax) ∧ w'.cell? ⟨w.heap.size, 1, none⟩ = some (.int .i64 ay) ∧ w'.cell? ⟨w.heap.size + 1, 0, none⟩ = some (.int .i64 ax) ∧ w'.cell? ⟨w.heap.size + 1, 1, none⟩ = some (.int .i64 by_) ∧ w'.cell? ⟨g, 0, none⟩ = some (.int .i64 ax) ∧ w'.cell? ⟨g, 1, none⟩ = some (.int .i64 by_) ∧ w'.cell? ⟨g, 2, none⟩ = some (.int .i64 ax) ∧ w'.cell? ⟨g, 3, none⟩ = some (.int .i64 ay)) (first | (exact ⟨below_drew1 HBo, (World.cell?_drew _ _).trans q0, (World.cell?_drew _ _).trans q1, (World.cell?_drew _ _).trans q2, (World.cell?_drew _ _).trans q3, (World.cell?_drew _ _).trans q4, (World.cell?_drew _ _).trans q5, (World.cell?_drew _ _).trans q6, (World.cell?_drew _ _).trans q7⟩) | (have hH := ‹Below _ _ _ ∧ _›; exact ⟨below_step hH.1 ‹Below _ _ _›, cell_on ‹Below _ _ _› hH.2.1, cell_on ‹Below _ _ _› hH.2.2.1, cell_on ‹Below _ _ _› hH.2.2.2.1, cell_on ‹Below _ _ _› hH.2.2.2.2.1, cell_on ‹Below _ _ _› hH.2.2.2.2.2.1, cell_on ‹Below _ _ _› hH.2.2.2.2.2.2.1, cell_on ‹Below _ _ _› hH.2.2.2.2.2.2.2.1, cell_on ‹Below _ _ _› hH.2.2.2.2.2.2.2.2⟩) | (have hH := ‹Below _ _ _ ∧ _›; exact ⟨pw_below_drewN hH.1 _, hH.2.1, hH.2.2.1, hH.2.2.2.1, hH.2.2.2.2.1, hH.2.2.2.2.2.1, hH.2.2.2.2.2.2.1, hH.2.2.2.2.2.2.2.1, hH.2.2.2.2.2.2.2.2⟩)) (first | (go_at_call 19; refine (alive_any _).mono ?_; rintro e w2 ⟨rfl, hb2⟩) | (go_at_call 28; refine (holds_any _ _ _ _ _ _ _).mono ?_; rintro e w2 ⟨rfl, hb2⟩; (first | rw [HA.out] | rw [HB.out])) | (go_at_call 29; refine (around_any _ _ _ _ _).mono ?_; rintro e w2 ⟨rfl, hb2⟩; rw [HR.out]) | (go_at_call 41; refine (cmp_any _ _ _ _ _).mono ?_; rintro e w2 ⟨rfl, hb2⟩; rw [HC.out]))
  all_goals (go_wp2_with fail; go_ret; exact ⟨rfl, (‹Below _ _ _ ∧ _›).1⟩)

set_option maxHeartbeats 4000000 in
set_option maxRecDepth 100000 in
theorem around_gt_lt (ax ay bx by_ : Int) (w : World) (hx : bx < ax) (hy : ay < by_) :
    Calls Try.prog 9 #[.agg #[.int .i64 ax, .int .i64 ay], .agg #[.int .i64 bx, .int .i64 by_]] w fun e w' => e = .returned (.bool true) ∧ Below w.heap.size w w' := by
  have hu23 := Try.underlying23
  have hu33 := Try.underlying33
  have HQ := Aside0.mk (show boxV (mn ax bx) (mn ay by_) (mx ax bx) (mx ay by_) = .agg #[.int .i64 bx, .int .i64 ay, .int .i64 ax, .int .i64 by_] by unfold mn mx; repeat (first | rw [if_pos (by omega)] | rw [if_neg (by omega)]))
  have HR := Aside0.mk (show boxV (mn bx ax) (mn by_ ay) (mx bx ax) (mx by_ ay) = .agg #[.int .i64 bx, .int .i64 ay, .int .i64 ax, .int .i64 by_] by unfold mn mx; repeat (first | rw [if_pos (by omega)] | rw [if_neg (by omega)]))
  have HA := Aside0.mk (show holdsB bx ay ax by_ ax ay = true by unfold holdsB; rw [decide_eq_true_iff]; omega)
  have HB := Aside0.mk (show holdsB bx ay ax by_ bx by_ = true by unfold holdsB; rw [decide_eq_true_iff]; omega)
  have HCa := Aside0.mk (show cmpB ax ay bx by_ = 1 by unfold cmpB; repeat (first | rw [if_pos (by omega)] | rw [if_neg (by omega)]))
  have HC := Aside0.mk (show cmpB bx by_ ax ay = -1 by unfold cmpB; repeat (first | rw [if_pos (by omega)] | rw [if_neg (by omega)]))
  have u0 : (ax == bx) = false := by rw [beq_eq_false_iff_ne]; omega
  have u1 : (bx == ax) = false := by rw [beq_eq_false_iff_ne]; omega
  have u2 : decide (ax < bx) = false := by simp; omega
  have u3 : decide (bx < ax) = true := by simp; omega
  have v0 : (ay == by_) = false := by rw [beq_eq_false_iff_ne]; omega
  have v1 : (by_ == ay) = false := by rw [beq_eq_false_iff_ne]; omega
  have v2 : decide (ay < by_) = true := by simp; omega
  have v3 : decide (by_ < ay) = false := by simp; omega
  go_enter Try.func9, Try.ntmps9
  go_wp2_with fail
  refine (around_any _ _ _ _ _).mono ?_
  rintro e w1 ⟨rfl, hb⟩
  rw [HQ.out]
  obtain ⟨k0, k1, HBo⟩ := two_pts hb
  clear hb
  have q0 := cell0 0 k0 rfl; have q1 := cell0 1 k0 rfl; have q2 := cell0 0 k1 rfl; have q3 := cell0 1 k1 rfl
  have l0 := blk_lt k0; have l1 := blk_lt k1
  have e0 := Nat.ne_of_lt l0; have e1 := Nat.ne_of_lt l1
  have K0 := Aside0.mk k0; have K1 := Aside0.mk k1
  clear k0 k1
  go_wp2_with fail
  refine (cmp_any _ _ _ _ _).mono ?_
  rintro e w2 ⟨rfl, hb⟩
  rw [HCa.out]
  have m0 := blk_below (blk_alloc K0.out _) hb; have m1 := blk_below (blk_alloc K1.out _) hb; have m2 := blk_below (blk_new w1 _) hb; have m3 := below_step (below_alloc HBo _) hb
  clear hb K0 K1 HBo q0 q1 q2 q3 l0 l1 e0 e1
  generalize w1.heap.size = g at m2 ⊢
  have HBo := m3
  have q0 := cell0 0 m0 rfl; have q1 := cell0 1 m0 rfl; have q2 := cell0 0 m1 rfl; have q3 := cell0 1 m1 rfl; have q4 := cell0 0 m2 rfl; have q5 := cell0 1 m2 rfl; have q6 := cell0 2 m2 rfl; have q7 := cell0 3 m2 rfl
  clear m0 m1 m2 m3
  go_wp2_with fail
  go_region_held3 (fun w' => Below w.heap.size w w' ∧ w'.cell? ⟨w.heap.size, 0, none⟩ = some (.int .i64 ax) ∧ w'.cell? ⟨w.heap.size, 1, none⟩ = some (.int .i64 ay) ∧ w'.cell? ⟨w.heap.size + 1, 0, none⟩ = some (.int .i64 bx) ∧ w'.cell? ⟨w.heap.size + 1, 1, none⟩ = some (.int .i64 by_) ∧ w'.cell? ⟨g, 0, none⟩ = some (.int .i64 bx) ∧ w'.cell? ⟨g, 1, none⟩ = some (.int .i64 ay) ∧ w'.cell? ⟨g, 2, none⟩ = some (.int .i64 ax) ∧ w'.cell? ⟨g, 3, none⟩ = some (.int .i64 by_)) (first | (exact ⟨below_drew1 HBo, (World.cell?_drew _ _).trans q0, (World.cell?_drew _ _).trans q1, (World.cell?_drew _ _).trans q2, (World.cell?_drew _ _).trans q3, (World.cell?_drew _ _).trans q4, (World.cell?_drew _ _).trans q5, (World.cell?_drew _ _).trans q6, (World.cell?_drew _ _).trans q7⟩) | (have hH := ‹Below _ _ _ ∧ _›; exact ⟨below_step hH.1 ‹Below _ _ _›, cell_on ‹Below _ _ _› hH.2.1, cell_on ‹Below _ _ _› hH.2.2.1, cell_on ‹Below _ _ _› hH.2.2.2.1, cell_on ‹Below _ _ _› hH.2.2.2.2.1, cell_on ‹Below _ _ _› hH.2.2.2.2.2.1, cell_on ‹Below _ _ _› hH.2.2.2.2.2.2.1, cell_on ‹Below _ _ _› hH.2.2.2.2.2.2.2.1, cell_on ‹Below _ _ _› hH.2.2.2.2.2.2.2.2⟩) | (have hH := ‹Below _ _ _ ∧ _›; exact ⟨pw_below_drewN hH.1 _, hH.2.1, hH.2.2.1, hH.2.2.2.1, hH.2.2.2.2.1, hH.2.2.2.2.2.1, hH.2.2.2.2.2.2.1, hH.2.2.2.2.2.2.2.1, hH.2.2.2.2.2.2.2.2⟩)) (first | (go_at_call 19; refine (alive_any _).mono ?_; rintro e w2 ⟨rfl, hb2⟩) | (go_at_call 28; refine (holds_any _ _ _ _ _ _ _).mono ?_; rintro e w2 ⟨rfl, hb2⟩; (first | rw [HA.out] | rw [HB.out])) | (go_at_call 29; refine (around_any _ _ _ _ _).mono ?_; rintro e w2 ⟨rfl, hb2⟩; rw [HR.out]) | (go_at_call 41; refine (cmp_any _ _ _ _ _).mono ?_; rintro e w2 ⟨rfl, hb2⟩; rw [HC.out]))
  all_goals (go_wp2_with fail; go_ret; exact ⟨rfl, (‹Below _ _ _ ∧ _›).1⟩)

set_option maxHeartbeats 4000000 in
set_option maxRecDepth 100000 in
theorem around_gt_eq (ax ay bx : Int) (w : World) (hx : bx < ax) :
    Calls Try.prog 9 #[.agg #[.int .i64 ax, .int .i64 ay], .agg #[.int .i64 bx, .int .i64 ay]] w fun e w' => e = .returned (.bool true) ∧ Below w.heap.size w w' := by
  have hu23 := Try.underlying23
  have hu33 := Try.underlying33
  have HQ := Aside0.mk (show boxV (mn ax bx) (mn ay ay) (mx ax bx) (mx ay ay) = .agg #[.int .i64 bx, .int .i64 ay, .int .i64 ax, .int .i64 ay] by unfold mn mx; repeat (first | rw [if_pos (by omega)] | rw [if_neg (by omega)]))
  have HR := Aside0.mk (show boxV (mn bx ax) (mn ay ay) (mx bx ax) (mx ay ay) = .agg #[.int .i64 bx, .int .i64 ay, .int .i64 ax, .int .i64 ay] by unfold mn mx; repeat (first | rw [if_pos (by omega)] | rw [if_neg (by omega)]))
  have HA := Aside0.mk (show holdsB bx ay ax ay ax ay = true by unfold holdsB; rw [decide_eq_true_iff]; omega)
  have HB := Aside0.mk (show holdsB bx ay ax ay bx ay = true by unfold holdsB; rw [decide_eq_true_iff]; omega)
  have HCa := Aside0.mk (show cmpB ax ay bx ay = 1 by unfold cmpB; repeat (first | rw [if_pos (by omega)] | rw [if_neg (by omega)]))
  have HC := Aside0.mk (show cmpB bx ay ax ay = -1 by unfold cmpB; repeat (first | rw [if_pos (by omega)] | rw [if_neg (by omega)]))
  have u0 : (ax == bx) = false := by rw [beq_eq_false_iff_ne]; omega
  have u1 : (bx == ax) = false := by rw [beq_eq_false_iff_ne]; omega
  have u2 : decide (ax < bx) = false := by simp; omega
  have u3 : decide (bx < ax) = true := by simp; omega
  go_enter Try.func9, Try.ntmps9
  go_wp2_with fail
  refine (around_any _ _ _ _ _).mono ?_
  rintro e w1 ⟨rfl, hb⟩
  rw [HQ.out]
  obtain ⟨k0, k1, HBo⟩ := two_pts hb
  clear hb
  have q0 := cell0 0 k0 rfl; have q1 := cell0 1 k0 rfl; have q2 := cell0 0 k1 rfl; have q3 := cell0 1 k1 rfl
  have l0 := blk_lt k0; have l1 := blk_lt k1
  have e0 := Nat.ne_of_lt l0; have e1 := Nat.ne_of_lt l1
  have K0 := Aside0.mk k0; have K1 := Aside0.mk k1
  clear k0 k1
  go_wp2_with fail
  refine (cmp_any _ _ _ _ _).mono ?_
  rintro e w2 ⟨rfl, hb⟩
  rw [HCa.out]
  have m0 := blk_below (blk_alloc K0.out _) hb; have m1 := blk_below (blk_alloc K1.out _) hb; have m2 := blk_below (blk_new w1 _) hb; have m3 := below_step (below_alloc HBo _) hb
  clear hb K0 K1 HBo q0 q1 q2 q3 l0 l1 e0 e1
  generalize w1.heap.size = g at m2 ⊢
  have HBo := m3
  have q0 := cell0 0 m0 rfl; have q1 := cell0 1 m0 rfl; have q2 := cell0 0 m1 rfl; have q3 := cell0 1 m1 rfl; have q4 := cell0 0 m2 rfl; have q5 := cell0 1 m2 rfl; have q6 := cell0 2 m2 rfl; have q7 := cell0 3 m2 rfl
  clear m0 m1 m2 m3
  go_wp2_with fail
  go_region_held3 (fun w' => Below w.heap.size w w' ∧ w'.cell? ⟨w.heap.size, 0, none⟩ = some (.int .i64 ax) ∧ w'.cell? ⟨w.heap.size, 1, none⟩ = some (.int .i64 ay) ∧ w'.cell? ⟨w.heap.size + 1, 0, none⟩ = some (.int .i64 bx) ∧ w'.cell? ⟨w.heap.size + 1, 1, none⟩ = some (.int .i64 ay) ∧ w'.cell? ⟨g, 0, none⟩ = some (.int .i64 bx) ∧ w'.cell? ⟨g, 1, none⟩ = some (.int .i64 ay) ∧ w'.cell? ⟨g, 2, none⟩ = some (.int .i64 ax) ∧ w'.cell? ⟨g, 3, none⟩ = some (.int .i64 ay)) (first | (exact ⟨below_drew1 HBo, (World.cell?_drew _ _).trans q0, (World.cell?_drew _ _).trans q1, (World.cell?_drew _ _).trans q2, (World.cell?_drew _ _).trans q3, (World.cell?_drew _ _).trans q4, (World.cell?_drew _ _).trans q5, (World.cell?_drew _ _).trans q6, (World.cell?_drew _ _).trans q7⟩) | (have hH := ‹Below _ _ _ ∧ _›; exact ⟨below_step hH.1 ‹Below _ _ _›, cell_on ‹Below _ _ _› hH.2.1, cell_on ‹Below _ _ _› hH.2.2.1, cell_on ‹Below _ _ _› hH.2.2.2.1, cell_on ‹Below _ _ _› hH.2.2.2.2.1, cell_on ‹Below _ _ _› hH.2.2.2.2.2.1, cell_on ‹Below _ _ _› hH.2.2.2.2.2.2.1, cell_on ‹Below _ _ _› hH.2.2.2.2.2.2.2.1, cell_on ‹Below _ _ _› hH.2.2.2.2.2.2.2.2⟩) | (have hH := ‹Below _ _ _ ∧ _›; exact ⟨pw_below_drewN hH.1 _, hH.2.1, hH.2.2.1, hH.2.2.2.1, hH.2.2.2.2.1, hH.2.2.2.2.2.1, hH.2.2.2.2.2.2.1, hH.2.2.2.2.2.2.2.1, hH.2.2.2.2.2.2.2.2⟩)) (first | (go_at_call 19; refine (alive_any _).mono ?_; rintro e w2 ⟨rfl, hb2⟩) | (go_at_call 28; refine (holds_any _ _ _ _ _ _ _).mono ?_; rintro e w2 ⟨rfl, hb2⟩; (first | rw [HA.out] | rw [HB.out])) | (go_at_call 29; refine (around_any _ _ _ _ _).mono ?_; rintro e w2 ⟨rfl, hb2⟩; rw [HR.out]) | (go_at_call 41; refine (cmp_any _ _ _ _ _).mono ?_; rintro e w2 ⟨rfl, hb2⟩; rw [HC.out]))
  all_goals (go_wp2_with fail; go_ret; exact ⟨rfl, (‹Below _ _ _ ∧ _›).1⟩)

set_option maxHeartbeats 4000000 in
set_option maxRecDepth 100000 in
theorem around_gt_gt (ax ay bx by_ : Int) (w : World) (hx : bx < ax) (hy : by_ < ay) :
    Calls Try.prog 9 #[.agg #[.int .i64 ax, .int .i64 ay], .agg #[.int .i64 bx, .int .i64 by_]] w fun e w' => e = .returned (.bool true) ∧ Below w.heap.size w w' := by
  have hu23 := Try.underlying23
  have hu33 := Try.underlying33
  have HQ := Aside0.mk (show boxV (mn ax bx) (mn ay by_) (mx ax bx) (mx ay by_) = .agg #[.int .i64 bx, .int .i64 by_, .int .i64 ax, .int .i64 ay] by unfold mn mx; repeat (first | rw [if_pos (by omega)] | rw [if_neg (by omega)]))
  have HR := Aside0.mk (show boxV (mn bx ax) (mn by_ ay) (mx bx ax) (mx by_ ay) = .agg #[.int .i64 bx, .int .i64 by_, .int .i64 ax, .int .i64 ay] by unfold mn mx; repeat (first | rw [if_pos (by omega)] | rw [if_neg (by omega)]))
  have HA := Aside0.mk (show holdsB bx by_ ax ay ax ay = true by unfold holdsB; rw [decide_eq_true_iff]; omega)
  have HB := Aside0.mk (show holdsB bx by_ ax ay bx by_ = true by unfold holdsB; rw [decide_eq_true_iff]; omega)
  have HCa := Aside0.mk (show cmpB ax ay bx by_ = 1 by unfold cmpB; repeat (first | rw [if_pos (by omega)] | rw [if_neg (by omega)]))
  have HC := Aside0.mk (show cmpB bx by_ ax ay = -1 by unfold cmpB; repeat (first | rw [if_pos (by omega)] | rw [if_neg (by omega)]))
  have u0 : (ax == bx) = false := by rw [beq_eq_false_iff_ne]; omega
  have u1 : (bx == ax) = false := by rw [beq_eq_false_iff_ne]; omega
  have u2 : decide (ax < bx) = false := by simp; omega
  have u3 : decide (bx < ax) = true := by simp; omega
  have v0 : (ay == by_) = false := by rw [beq_eq_false_iff_ne]; omega
  have v1 : (by_ == ay) = false := by rw [beq_eq_false_iff_ne]; omega
  have v2 : decide (ay < by_) = false := by simp; omega
  have v3 : decide (by_ < ay) = true := by simp; omega
  go_enter Try.func9, Try.ntmps9
  go_wp2_with fail
  refine (around_any _ _ _ _ _).mono ?_
  rintro e w1 ⟨rfl, hb⟩
  rw [HQ.out]
  obtain ⟨k0, k1, HBo⟩ := two_pts hb
  clear hb
  have q0 := cell0 0 k0 rfl; have q1 := cell0 1 k0 rfl; have q2 := cell0 0 k1 rfl; have q3 := cell0 1 k1 rfl
  have l0 := blk_lt k0; have l1 := blk_lt k1
  have e0 := Nat.ne_of_lt l0; have e1 := Nat.ne_of_lt l1
  have K0 := Aside0.mk k0; have K1 := Aside0.mk k1
  clear k0 k1
  go_wp2_with fail
  refine (cmp_any _ _ _ _ _).mono ?_
  rintro e w2 ⟨rfl, hb⟩
  rw [HCa.out]
  have m0 := blk_below (blk_alloc K0.out _) hb; have m1 := blk_below (blk_alloc K1.out _) hb; have m2 := blk_below (blk_new w1 _) hb; have m3 := below_step (below_alloc HBo _) hb
  clear hb K0 K1 HBo q0 q1 q2 q3 l0 l1 e0 e1
  generalize w1.heap.size = g at m2 ⊢
  have HBo := m3
  have q0 := cell0 0 m0 rfl; have q1 := cell0 1 m0 rfl; have q2 := cell0 0 m1 rfl; have q3 := cell0 1 m1 rfl; have q4 := cell0 0 m2 rfl; have q5 := cell0 1 m2 rfl; have q6 := cell0 2 m2 rfl; have q7 := cell0 3 m2 rfl
  clear m0 m1 m2 m3
  go_wp2_with fail
  go_region_held3 (fun w' => Below w.heap.size w w' ∧ w'.cell? ⟨w.heap.size, 0, none⟩ = some (.int .i64 ax) ∧ w'.cell? ⟨w.heap.size, 1, none⟩ = some (.int .i64 ay) ∧ w'.cell? ⟨w.heap.size + 1, 0, none⟩ = some (.int .i64 bx) ∧ w'.cell? ⟨w.heap.size + 1, 1, none⟩ = some (.int .i64 by_) ∧ w'.cell? ⟨g, 0, none⟩ = some (.int .i64 bx) ∧ w'.cell? ⟨g, 1, none⟩ = some (.int .i64 by_) ∧ w'.cell? ⟨g, 2, none⟩ = some (.int .i64 ax) ∧ w'.cell? ⟨g, 3, none⟩ = some (.int .i64 ay)) (first | (exact ⟨below_drew1 HBo, (World.cell?_drew _ _).trans q0, (World.cell?_drew _ _).trans q1, (World.cell?_drew _ _).trans q2, (World.cell?_drew _ _).trans q3, (World.cell?_drew _ _).trans q4, (World.cell?_drew _ _).trans q5, (World.cell?_drew _ _).trans q6, (World.cell?_drew _ _).trans q7⟩) | (have hH := ‹Below _ _ _ ∧ _›; exact ⟨below_step hH.1 ‹Below _ _ _›, cell_on ‹Below _ _ _› hH.2.1, cell_on ‹Below _ _ _› hH.2.2.1, cell_on ‹Below _ _ _› hH.2.2.2.1, cell_on ‹Below _ _ _› hH.2.2.2.2.1, cell_on ‹Below _ _ _› hH.2.2.2.2.2.1, cell_on ‹Below _ _ _› hH.2.2.2.2.2.2.1, cell_on ‹Below _ _ _› hH.2.2.2.2.2.2.2.1, cell_on ‹Below _ _ _› hH.2.2.2.2.2.2.2.2⟩) | (have hH := ‹Below _ _ _ ∧ _›; exact ⟨pw_below_drewN hH.1 _, hH.2.1, hH.2.2.1, hH.2.2.2.1, hH.2.2.2.2.1, hH.2.2.2.2.2.1, hH.2.2.2.2.2.2.1, hH.2.2.2.2.2.2.2.1, hH.2.2.2.2.2.2.2.2⟩)) (first | (go_at_call 19; refine (alive_any _).mono ?_; rintro e w2 ⟨rfl, hb2⟩) | (go_at_call 28; refine (holds_any _ _ _ _ _ _ _).mono ?_; rintro e w2 ⟨rfl, hb2⟩; (first | rw [HA.out] | rw [HB.out])) | (go_at_call 29; refine (around_any _ _ _ _ _).mono ?_; rintro e w2 ⟨rfl, hb2⟩; rw [HR.out]) | (go_at_call 41; refine (cmp_any _ _ _ _ _).mono ?_; rintro e w2 ⟨rfl, hb2⟩; rw [HC.out]))
  all_goals (go_wp2_with fail; go_ret; exact ⟨rfl, (‹Below _ _ _ ∧ _›).1⟩)

theorem around_walk (w : World) (ax ay : Int) (_ : -9223372036854775808 ≤ ax ∧ ax ≤ 9223372036854775807) (_ : -9223372036854775808 ≤ ay ∧ ay ≤ 9223372036854775807) (bx by_ : Int) (_ : -9223372036854775808 ≤ bx ∧ bx ≤ 9223372036854775807) (_ : -9223372036854775808 ≤ by_ ∧ by_ ≤ 9223372036854775807) :
    Calls Try.prog 9 #[.agg #[.int .i64 ax, .int .i64 ay], .agg #[.int .i64 bx, .int .i64 by_]] w fun e w' => e = .returned (.bool true) ∧ Below w.heap.size w w' := by
  rcases Int.lt_trichotomy ax bx with hx | rfl | hx
  · rcases Int.lt_trichotomy ay by_ with hy | rfl | hy
    · exact around_lt_lt ax ay bx by_ w hx hy
    · exact around_lt_eq ax ay bx w hx
    · exact around_lt_gt ax ay bx by_ w hx hy
  · rcases Int.lt_trichotomy ay by_ with hy | rfl | hy
    · exact around_eq_lt ax ay by_ w hy
    · exact around_eq_eq ax ay w
    · exact around_eq_gt ax ay by_ w hy
  · rcases Int.lt_trichotomy ay by_ with hy | rfl | hy
    · exact around_gt_lt ax ay bx by_ w hx hy
    · exact around_gt_eq ax ay bx w hx
    · exact around_gt_gt ax ay bx by_ w hx hy
end Go.Proofs.Ytpfgjagpaddcpaa.Own
