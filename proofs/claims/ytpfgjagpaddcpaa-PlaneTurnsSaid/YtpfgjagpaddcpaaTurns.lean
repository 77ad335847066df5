import Derived.Test.YtpfgjagpaddcpaaA3
/-! PlaneTurns, walked. -/
namespace Go.Proofs.Ytpfgjagpaddcpaa.Own
open Go.RowKit Go.Proofs.YtpfgjagpaddcpaaW.PrintWords Go.Proofs.YtpfgjagpaddcpaaW.PrintLast Go.Proofs.YtpfgjagpaddcpaaW.PrintMore
open Go.Proofs.Ytpfgjagpaddcpaa.X
set_option linter.unusedVariables false
set_option linter.unusedSimpArgs false

/-- Three points boxed, and what a call leaves of them. -/
theorem three_pts {w w1 : World} {ox oy ax ay bx by_ : Int} (hb : Below (((w.alloc (.cells #[.int .i64 ox, .int .i64 oy] 23)).alloc (.cells #[.int .i64 ax, .int .i64 ay] 23)).alloc (.cells #[.int .i64 bx, .int .i64 by_] 23)).heap.size (((w.alloc (.cells #[.int .i64 ox, .int .i64 oy] 23)).alloc (.cells #[.int .i64 ax, .int .i64 ay] 23)).alloc (.cells #[.int .i64 bx, .int .i64 by_] 23)) w1) :
    w1.heap[w.heap.size]? = some (.cells #[.int .i64 ox, .int .i64 oy] 23 (0, 0)) ∧ w1.heap[w.heap.size + 1]? = some (.cells #[.int .i64 ax, .int .i64 ay] 23 (0, 0)) ∧ w1.heap[w.heap.size + 1 + 1]? = some (.cells #[.int .i64 bx, .int .i64 by_] 23 (0, 0)) ∧ Below w.heap.size w w1 := by
  have n0 := blk_below (blk_alloc (blk_alloc (blk_new w (.cells #[.int .i64 ox, .int .i64 oy] 23)) (.cells #[.int .i64 ax, .int .i64 ay] 23)) (.cells #[.int .i64 bx, .int .i64 by_] 23)) hb
  have n1 := blk_below (blk_alloc (blk_new (w.alloc (.cells #[.int .i64 ox, .int .i64 oy] 23)) (.cells #[.int .i64 ax, .int .i64 ay] 23)) (.cells #[.int .i64 bx, .int .i64 by_] 23)) hb
  have n2 := blk_below (blk_new ((w.alloc (.cells #[.int .i64 ox, .int .i64 oy] 23)).alloc (.cells #[.int .i64 ax, .int .i64 ay] 23)) (.cells #[.int .i64 bx, .int .i64 by_] 23)) hb
  simp only [World.size_alloc] at n1 n2
  exact ⟨n0, n1, n2, below_then (below_alloc (below_alloc (below_alloc (Below.refl w.heap.size w) _) _) _) (by simp; omega) hb⟩

set_option maxHeartbeats 4000000 in
set_option maxRecDepth 100000 in
theorem turns_walk (ox oy : Int) (_ : -9223372036854775808 ≤ ox ∧ ox ≤ 9223372036854775807) (_ : -9223372036854775808 ≤ oy ∧ oy ≤ 9223372036854775807) (ax ay : Int) (_ : -9223372036854775808 ≤ ax ∧ ax ≤ 9223372036854775807) (_ : -9223372036854775808 ≤ ay ∧ ay ≤ 9223372036854775807) (bx by_ : Int) (_ : -9223372036854775808 ≤ bx ∧ bx ≤ 9223372036854775807) (_ : -9223372036854775808 ≤ by_ ∧ by_ ≤ 9223372036854775807) (w : World) :
    Calls Try.prog 3 #[.agg #[.int .i64 ox, .int .i64 oy], .agg #[.int .i64 ax, .int .i64 ay], .agg #[.int .i64 bx, .int .i64 by_]] w fun e w' => e = .returned (.bool true) ∧ Below w.heap.size w w' := by
  have hu23 := Try.underlying23
  go_enter Try.func3, Try.ntmps3
  go_wp2_with fail
  refine (cross_any _ _ _ _ _ _ _).mono ?_
  rintro e w1 ⟨rfl, hb⟩
  obtain ⟨m0, m1, m2, HBo⟩ := three_pts hb
  clear hb
  have q0 := cell0 0 m0 rfl; have q1 := cell0 1 m0 rfl; have q2 := cell0 0 m1 rfl; have q3 := cell0 1 m1 rfl; have q4 := cell0 0 m2 rfl; have q5 := cell0 1 m2 rfl
  clear m0 m1 m2
  go_wp2_with fail
  go_region_held3 (fun w' => Below w.heap.size w w' ∧ w'.cell? ⟨w.heap.size, 0, none⟩ = some (.int .i64 ox) ∧ w'.cell? ⟨w.heap.size, 1, none⟩ = some (.int .i64 oy) ∧ w'.cell? ⟨w.heap.size + 1, 0, none⟩ = some (.int .i64 ax) ∧ w'.cell? ⟨w.heap.size + 1, 1, none⟩ = some (.int .i64 ay) ∧ w'.cell? ⟨w.heap.size + 1 + 1, 0, none⟩ = some (.int .i64 bx) ∧ w'.cell? ⟨w.heap.size + 1 + 1, 1, none⟩ = some (.int .i64 by_)) (first | (exact ⟨below_drew1 HBo, (World.cell?_drew _ _).trans q0, (World.cell?_drew _ _).trans q1, (World.cell?_drew _ _).trans q2, (World.cell?_drew _ _).trans q3, (World.cell?_drew _ _).trans q4, (World.cell?_drew _ _).trans q5⟩) | (have hH := ‹Below _ _ _ ∧ _›; exact ⟨below_step hH.1 ‹Below _ _ _›, cell_on ‹Below _ _ _› hH.2.1, cell_on ‹Below _ _ _› hH.2.2.1, cell_on ‹Below _ _ _› hH.2.2.2.1, cell_on ‹Below _ _ _› hH.2.2.2.2.1, cell_on ‹Below _ _ _› hH.2.2.2.2.2.1, cell_on ‹Below _ _ _› hH.2.2.2.2.2.2⟩) | (have hH := ‹Below _ _ _ ∧ _›; exact ⟨pw_below_drewN hH.1 _, hH.2.1, hH.2.2.1, hH.2.2.2.1, hH.2.2.2.2.1, hH.2.2.2.2.2.1, hH.2.2.2.2.2.2⟩)) (first | (go_at_call 19; refine (alive_any _).mono ?_; rintro e w2 ⟨rfl, hb2⟩) | (go_at_call 20; refine (right_any _ _ _).mono ?_; rintro e w2 ⟨rfl, hb2⟩) | (go_at_call 21; refine (refRight_any _ _ _).mono ?_; rintro e w2 ⟨rfl, hb2⟩) | (go_at_call 22; refine (refCross_any _ _ _ _ _ _ _).mono ?_; rintro e w2 ⟨rfl, hb2⟩) | (go_at_call 23; refine (turn_any _ _ _ _ _ _ _).mono ?_; rintro e w2 ⟨rfl, hb2⟩) | (go_at_call 24; refine (sign_any _ _).mono ?_; rintro e w2 ⟨rfl, hb2⟩))
  all_goals (go_wp2_with fail; go_ret; exact ⟨rfl, (‹Below _ _ _ ∧ _›).1⟩)
end Go.Proofs.Ytpfgjagpaddcpaa.Own
