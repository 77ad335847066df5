import Derived.StillTailTactics
import Derived.Deep.Heap
import Derived.Test.YtpfgjagpaddcpaaA3
/-! PlaneOrder, walked. -/
namespace Go.Proofs.Ytpfgjagpaddcpaa.Own
open Go.RowKit Go.Proofs.YtpfgjagpaddcpaaW.PrintWords Go.Proofs.YtpfgjagpaddcpaaW.PrintLast Go.Proofs.YtpfgjagpaddcpaaW.PrintMore
open Go.Proofs.Ytpfgjagpaddcpaa.X
set_option linter.unusedVariables false
set_option linter.unusedSimpArgs false

theorem nearB_iff (x y : Int) : nearB x y = true ↔ (-268435456 ≤ x ∧ x ≤ 268435456 ∧ -268435456 ≤ y ∧ y ≤ 268435456) := by
  unfold nearB
  exact decide_eq_true_iff

theorem crossB_cyc (a b c e f g : Int) : crossB c e f g a b = crossB a b c e f g := by
  unfold crossB
  cases rightB a b <;> cases rightB c e <;> cases rightB f g <;> simp
  grind
theorem crossB_sw (a b c e f g : Int) : crossB c e a b f g = - crossB a b c e f g := by
  unfold crossB
  cases rightB a b <;> cases rightB c e <;> cases rightB f g <;> simp
  grind
theorem crossB_sw2 (a b c e f g : Int) : crossB a b f g c e = - crossB a b c e f g := by
  unfold crossB
  cases rightB a b <;> cases rightB c e <;> cases rightB f g <;> simp
  grind
theorem near_right {a b x y : Int} (h : nearB a b = true) (h2 : nearB x y = true) : rightB a b = true ∧ rightB (a + x) (b + y) = true := by
  rw [nearB_iff] at h h2
  rw [rightB_iff, rightB_iff]
  omega
theorem crossB_moved {a b c e f g x y : Int} (h0 : nearB a b = true) (h1 : nearB c e = true) (h2 : nearB f g = true) (h3 : nearB x y = true) : crossB (a + x) (b + y) (c + x) (e + y) (f + x) (g + y) = crossB a b c e f g := by
  obtain ⟨p0, q0⟩ := near_right h0 h3
  obtain ⟨p1, q1⟩ := near_right h1 h3
  obtain ⟨p2, q2⟩ := near_right h2 h3
  unfold crossB
  simp only [p0, q0, p1, q1, p2, q2, and_self, if_true]
  grind

theorem alloc3_heap (W : World) (X Y Z : Obj) : ((((W.alloc X).alloc Y).alloc Z).drew).heap[W.heap.size]? = some X ∧ ((((W.alloc X).alloc Y).alloc Z).drew).heap[W.heap.size + 1]? = some Y ∧ ((((W.alloc X).alloc Y).alloc Z).drew).heap[W.heap.size + 1 + 1]? = some Z ∧ Below W.heap.size W ((((W.alloc X).alloc Y).alloc Z).drew) := by
  have h0 := blk_drew (blk_alloc (blk_alloc (blk_new W X) Y) Z)
  have h1 := blk_drew (blk_alloc (blk_new (W.alloc X) Y) Z)
  have h2 := blk_drew (blk_new ((W.alloc X).alloc Y) Z)
  simp only [World.size_alloc] at h1 h2
  exact ⟨h0, h1, h2, below_drew1 (below_alloc (below_alloc (below_alloc (Below.refl _ _) _) _) _)⟩

theorem keep6 {W w' : World} {p0 p1 p2 p3 p4 p5 : Addr} {v0 v1 v2 v3 v4 v5 : Value} (hB : Below W.heap.size W w') (q0 : W.cell? p0 = some v0) (q1 : W.cell? p1 = some v1) (q2 : W.cell? p2 = some v2) (q3 : W.cell? p3 = some v3) (q4 : W.cell? p4 = some v4) (q5 : W.cell? p5 = some v5) :
    Below W.heap.size W w' ∧ w'.cell? p0 = some v0 ∧ w'.cell? p1 = some v1 ∧ w'.cell? p2 = some v2 ∧ w'.cell? p3 = some v3 ∧ w'.cell? p4 = some v4 ∧ w'.cell? p5 = some v5 :=
  ⟨hB, cell_on hB q0, cell_on hB q1, cell_on hB q2, cell_on hB q3, cell_on hB q4, cell_on hB q5⟩

set_option maxHeartbeats 8000000 in
set_option maxRecDepth 100000 in
theorem order_walk (w : World) (a b c e f g x y : Int) (_ : -9223372036854775808 ≤ x ∧ x ≤ 9223372036854775807) (_ : -9223372036854775808 ≤ y ∧ y ≤ 9223372036854775807) :
    Calls Try.prog 4 #[.agg #[.int .i64 a, .int .i64 b, .int .i64 c, .int .i64 e, .int .i64 f, .int .i64 g], .agg #[.int .i64 x, .int .i64 y]] w fun e1 w' => e1 = .returned (.bool true) ∧ Below w.heap.size w w' := by
  have hu23 := Try.underlying23
  have hu29 := Try.underlying29
  go_enter Try.func4, Try.ntmps4
  go_wp2_with fail
  have k0 : (w.alloc (.cells #[.int .i64 a, .int .i64 b, .int .i64 c, .int .i64 e, .int .i64 f, .int .i64 g] 29)).heap[w.heap.size]? = some (.cells #[.int .i64 a, .int .i64 b, .int .i64 c, .int .i64 e, .int .i64 f, .int .i64 g] 29 (0, 0)) := blk_new w _
  have k1 := blk_alloc k0 (.cells #[.int .i64 x, .int .i64 y] 23)
  have q0 := cell0 0 k1 rfl; have q1 := cell0 1 k1 rfl; have q2 := cell0 2 k1 rfl; have q3 := cell0 3 k1 rfl; have q4 := cell0 4 k1 rfl; have q5 := cell0 5 k1 rfl
  have hlt := blk_lt k1
  have kb := blk_new (w.alloc (.cells #[.int .i64 a, .int .i64 b, .int .i64 c, .int .i64 e, .int .i64 f, .int .i64 g] 29)) (.cells #[.int .i64 x, .int .i64 y] 23)
  rw [World.size_alloc] at kb
  have HBl := Aside0.mk k1
  have HBy := Aside0.mk kb
  have HW0 := Aside0.mk (below_alloc (below_alloc (Below.refl w.heap.size w) (.cells #[.int .i64 a, .int .i64 b, .int .i64 c, .int .i64 e, .int .i64 f, .int .i64 g] 29)) (.cells #[.int .i64 x, .int .i64 y] 23))
  clear k0 k1 kb
  generalize hW : (w.alloc (.cells #[.int .i64 a, .int .i64 b, .int .i64 c, .int .i64 e, .int .i64 f, .int .i64 g] 29)).alloc (.cells #[.int .i64 x, .int .i64 y] 23) = W at q0 q1 q2 q3 q4 q5 hlt HBl HBy HW0 ⊢
  clear hW
  go_upto_region 1 with (fail)
  go_cut [5, 6, 7] (fun v5 v6 v7 wc => Aside0 (Below W.heap.size W wc) ∧ ∃ g5 g6 g7 : Nat, v5 = .pointer (some ⟨g5, 0, none⟩) ∧ v6 = .pointer (some ⟨g6, 0, none⟩) ∧ v7 = .pointer (some ⟨g7, 0, none⟩) ∧ Aside0 (wc.heap[g5]? = some (.cells #[.int .i64 a, .int .i64 b] 23 (0, 0))) ∧ Aside0 (wc.heap[g6]? = some (.cells #[.int .i64 c, .int .i64 e] 23 (0, 0))) ∧ Aside0 (wc.heap[g7]? = some (.cells #[.int .i64 f, .int .i64 g] 23 (0, 0))))
  case first =>
    go_region_held3 (fun w' => Below W.heap.size W w' ∧ w'.cell? ⟨w.heap.size, 0, none⟩ = some (.int .i64 a) ∧ w'.cell? ⟨w.heap.size, 1, none⟩ = some (.int .i64 b) ∧ w'.cell? ⟨w.heap.size, 2, none⟩ = some (.int .i64 c) ∧ w'.cell? ⟨w.heap.size, 3, none⟩ = some (.int .i64 e) ∧ w'.cell? ⟨w.heap.size, 4, none⟩ = some (.int .i64 f) ∧ w'.cell? ⟨w.heap.size, 5, none⟩ = some (.int .i64 g)) ((refine keep6 ?_ q0 q1 q2 q3 q4 q5; repeat (first | exact Below.refl _ _ | apply below_drew1 | apply below_alloc))) (fail)
    all_goals
      (try go_wp2)
      go_meet
      case rel =>
        first
        | (obtain ⟨h0, h1, h2, hB⟩ := alloc3_heap W (.cells #[.int .i64 a, .int .i64 b] 23) (.cells #[.int .i64 c, .int .i64 e] 23) (.cells #[.int .i64 f, .int .i64 g] 23); exact ⟨⟨hB⟩, _, _, _, rfl, rfl, rfl, ⟨h0⟩, ⟨h1⟩, ⟨h2⟩⟩)
        | (obtain ⟨h0, h1, h2, hB⟩ := alloc3_heap W (.cells #[.int .i64 a, .int .i64 b] 23) (.cells #[.int .i64 f, .int .i64 g] 23) (.cells #[.int .i64 c, .int .i64 e] 23); exact ⟨⟨hB⟩, _, _, _, rfl, rfl, rfl, ⟨h0⟩, ⟨h2⟩, ⟨h1⟩⟩)
        | (obtain ⟨h0, h1, h2, hB⟩ := alloc3_heap W (.cells #[.int .i64 c, .int .i64 e] 23) (.cells #[.int .i64 a, .int .i64 b] 23) (.cells #[.int .i64 f, .int .i64 g] 23); exact ⟨⟨hB⟩, _, _, _, rfl, rfl, rfl, ⟨h1⟩, ⟨h0⟩, ⟨h2⟩⟩)
        | (obtain ⟨h0, h1, h2, hB⟩ := alloc3_heap W (.cells #[.int .i64 c, .int .i64 e] 23) (.cells #[.int .i64 f, .int .i64 g] 23) (.cells #[.int .i64 a, .int .i64 b] 23); exact ⟨⟨hB⟩, _, _, _, rfl, rfl, rfl, ⟨h2⟩, ⟨h0⟩, ⟨h1⟩⟩)
        | (obtain ⟨h0, h1, h2, hB⟩ := alloc3_heap W (.cells #[.int .i64 f, .int .i64 g] 23) (.cells #[.int .i64 a, .int .i64 b] 23) (.cells #[.int .i64 c, .int .i64 e] 23); exact ⟨⟨hB⟩, _, _, _, rfl, rfl, rfl, ⟨h1⟩, ⟨h2⟩, ⟨h0⟩⟩)
        | (obtain ⟨h0, h1, h2, hB⟩ := alloc3_heap W (.cells #[.int .i64 f, .int .i64 g] 23) (.cells #[.int .i64 c, .int .i64 e] 23) (.cells #[.int .i64 a, .int .i64 b] 23); exact ⟨⟨hB⟩, _, _, _, rfl, rfl, rfl, ⟨h2⟩, ⟨h1⟩, ⟨h0⟩⟩)
  case rest =>
    obtain ⟨HWc, g5, g6, g7, rfl, rfl, rfl, k5, k6, k7⟩ := hcut
    have HBl' := Aside0.mk (blk_below HBl.out HWc.out)
    have HBy' := Aside0.mk (blk_below HBy.out HWc.out)
    have HB := Aside0.mk (below_step HW0.out HWc.out)
    clear HBl HBy HW0 HWc q0 q1 q2 q3 q4 q5 hlt
    have N1 := Aside0.mk (crossB_cyc a b c e f g)
    have N2 := Aside0.mk (show crossB f g a b c e = crossB a b c e f g by rw [← crossB_cyc, ← crossB_cyc, crossB_cyc, crossB_cyc])
    have N3 := Aside0.mk (crossB_sw a b c e f g)
    have N4 := Aside0.mk (crossB_sw2 a b c e f g)
    have NB := crossB_bd a b c e f g
    obtain ⟨n, hn⟩ : ∃ n, crossB a b c e f g = n := ⟨_, rfl⟩
    rw [hn] at NB
    have NN := Aside0.mk hn
    clear hn
    have hneg : IntKind.i64.wrap (-n) = -n := IntWalk.i64_in _ (by omega)
    have z0 := cell0 0 k5.out rfl; have z1 := cell0 1 k5.out rfl; have z2 := cell0 0 k6.out rfl; have z3 := cell0 1 k6.out rfl; have z4 := cell0 0 k7.out rfl; have z5 := cell0 1 k7.out rfl
    go_wp2_with fail
    refine (cross_any _ _ _ _ _ _ _).mono ?_
    rintro e1 w2 ⟨rfl, hb⟩
    rw [NN.out]
    have k5' := Aside0.mk (blk_below k5.out hb); have k6' := Aside0.mk (blk_below k6.out hb); have k7' := Aside0.mk (blk_below k7.out hb); have l1 := Aside0.mk (blk_below HBl'.out hb); have l2 := Aside0.mk (blk_below HBy'.out hb); have l3 := Aside0.mk (below_step HB.out hb)
    clear hb k5 k6 k7 HBl' HBy' HB z0 z1 z2 z3 z4 z5
    have k5 := k5'; have k6 := k6'; have k7 := k7'; have HBl' := l1; have HBy' := l2; have HB := l3
    clear k5' k6' k7' l1 l2 l3
    have z0 := cell0 0 k5.out rfl; have z1 := cell0 1 k5.out rfl; have z2 := cell0 0 k6.out rfl; have z3 := cell0 1 k6.out rfl; have z4 := cell0 0 k7.out rfl; have z5 := cell0 1 k7.out rfl
    go_wp2_with fail
    refine (cross_any _ _ _ _ _ _ _).mono ?_
    rintro e1 w2 ⟨rfl, hb⟩
    rw [N1.out, NN.out]
    have k5' := Aside0.mk (blk_below k5.out hb); have k6' := Aside0.mk (blk_below k6.out hb); have k7' := Aside0.mk (blk_below k7.out hb); have l1 := Aside0.mk (blk_below HBl'.out hb); have l2 := Aside0.mk (blk_below HBy'.out hb); have l3 := Aside0.mk (below_step HB.out hb)
    clear hb k5 k6 k7 HBl' HBy' HB z0 z1 z2 z3 z4 z5
    have k5 := k5'; have k6 := k6'; have k7 := k7'; have HBl' := l1; have HBy' := l2; have HB := l3
    clear k5' k6' k7' l1 l2 l3
    have z0 := cell0 0 k5.out rfl; have z1 := cell0 1 k5.out rfl; have z2 := cell0 0 k6.out rfl; have z3 := cell0 1 k6.out rfl; have z4 := cell0 0 k7.out rfl; have z5 := cell0 1 k7.out rfl
    go_wp2_with fail
    refine (cross_any _ _ _ _ _ _ _).mono ?_
    rintro e1 w2 ⟨rfl, hb⟩
    rw [N2.out, NN.out]
    have k5' := Aside0.mk (blk_below k5.out hb); have k6' := Aside0.mk (blk_below k6.out hb); have k7' := Aside0.mk (blk_below k7.out hb); have l1 := Aside0.mk (blk_below HBl'.out hb); have l2 := Aside0.mk (blk_below HBy'.out hb); have l3 := Aside0.mk (below_step HB.out hb)
    clear hb k5 k6 k7 HBl' HBy' HB z0 z1 z2 z3 z4 z5
    have k5 := k5'; have k6 := k6'; have k7 := k7'; have HBl' := l1; have HBy' := l2; have HB := l3
    clear k5' k6' k7' l1 l2 l3
    have z0 := cell0 0 k5.out rfl; have z1 := cell0 1 k5.out rfl; have z2 := cell0 0 k6.out rfl; have z3 := cell0 1 k6.out rfl; have z4 := cell0 0 k7.out rfl; have z5 := cell0 1 k7.out rfl
    go_wp2_with fail
    refine (cross_any _ _ _ _ _ _ _).mono ?_
    rintro e1 w2 ⟨rfl, hb⟩
    rw [N3.out, NN.out]
    have k5' := Aside0.mk (blk_below k5.out hb); have k6' := Aside0.mk (blk_below k6.out hb); have k7' := Aside0.mk (blk_below k7.out hb); have l1 := Aside0.mk (blk_below HBl'.out hb); have l2 := Aside0.mk (blk_below HBy'.out hb); have l3 := Aside0.mk (below_step HB.out hb)
    clear hb k5 k6 k7 HBl' HBy' HB z0 z1 z2 z3 z4 z5
    have k5 := k5'; have k6 := k6'; have k7 := k7'; have HBl' := l1; have HBy' := l2; have HB := l3
    clear k5' k6' k7' l1 l2 l3
    have z0 := cell0 0 k5.out rfl; have z1 := cell0 1 k5.out rfl; have z2 := cell0 0 k6.out rfl; have z3 := cell0 1 k6.out rfl; have z4 := cell0 0 k7.out rfl; have z5 := cell0 1 k7.out rfl
    go_wp2_with fail
    refine (cross_any _ _ _ _ _ _ _).mono ?_
    rintro e1 w2 ⟨rfl, hb⟩
    rw [N4.out, NN.out]
    have k5' := Aside0.mk (blk_below k5.out hb); have k6' := Aside0.mk (blk_below k6.out hb); have k7' := Aside0.mk (blk_below k7.out hb); have l1 := Aside0.mk (blk_below HBl'.out hb); have l2 := Aside0.mk (blk_below HBy'.out hb); have l3 := Aside0.mk (below_step HB.out hb)
    clear hb k5 k6 k7 HBl' HBy' HB z0 z1 z2 z3 z4 z5
    have k5 := k5'; have k6 := k6'; have k7 := k7'; have HBl' := l1; have HBy' := l2; have HB := l3
    clear k5' k6' k7' l1 l2 l3
    have z0 := cell0 0 k5.out rfl; have z1 := cell0 1 k5.out rfl; have z2 := cell0 0 k6.out rfl; have z3 := cell0 1 k6.out rfl; have z4 := cell0 0 k7.out rfl; have z5 := cell0 1 k7.out rfl
    go_wp2_with fail
    clear k5 k6 k7 z0 z1 z2 z3 z4 z5
    go_loopw [52] (fun i wr => Aside0 (Below w.heap.size w wr) ∧ Aside0 (wr.heap[w.heap.size + 1]? = some (.cells #[.int .i64 x, .int .i64 y] 23 (0, 0))) ∧ ((i = .int .i64 0 ∧ Aside0 (wr.heap[w.heap.size]? = some (.cells #[.int .i64 a, .int .i64 b, .int .i64 c, .int .i64 e, .int .i64 f, .int .i64 g] 29 (0, 0)))) ∨ (i = .int .i64 1 ∧ Aside0 (nearB a b = true) ∧ Aside0 (nearB x y = true) ∧ Aside0 (wr.heap[w.heap.size]? = some (.cells #[.int .i64 (a + x), .int .i64 (b + y), .int .i64 c, .int .i64 e, .int .i64 f, .int .i64 g] 29 (0, 0)))) ∨ (i = .int .i64 2 ∧ Aside0 (nearB a b = true) ∧ Aside0 (nearB c e = true) ∧ Aside0 (nearB x y = true) ∧ Aside0 (wr.heap[w.heap.size]? = some (.cells #[.int .i64 (a + x), .int .i64 (b + y), .int .i64 (c + x), .int .i64 (e + y), .int .i64 f, .int .i64 g] 29 (0, 0)))) ∨ (i = .int .i64 3 ∧ Aside0 (nearB a b = true) ∧ Aside0 (nearB c e = true) ∧ Aside0 (nearB f g = true) ∧ Aside0 (nearB x y = true) ∧ Aside0 (wr.heap[w.heap.size]? = some (.cells #[.int .i64 (a + x), .int .i64 (b + y), .int .i64 (c + x), .int .i64 (e + y), .int .i64 (f + x), .int .i64 (g + y)] 29 (0, 0)))))) (fun i _ => 3 - (intOf i).toNat)
    case atStart => exact ⟨HB, HBy', Or.inl ⟨rfl, HBl'⟩⟩
    case round =>
      clear HB HBy' HBl'
      obtain ⟨HB, KY, hst⟩ := hrel
      have y0 := cell0 0 KY.out rfl; have y1 := cell0 1 KY.out rfl
      rcases hst with ⟨rfl, KL⟩ | ⟨rfl, M0, MY, KL⟩ | ⟨rfl, M0, M1, MY, KL⟩ | ⟨rfl, M0, M1, M2, MY, KL⟩
      · have c0 := cell0 0 KL.out rfl; have c1 := cell0 1 KL.out rfl
        cases hn1 : nearB a b with
        | false =>
          have H1 := Aside0.mk hn1
          clear hn1
          go_wp2_with fail
          refine (near_any _ _ _).mono ?_
          rintro e1 w3 ⟨rfl, hb⟩
          rw [H1.out]
          replace HB := Aside0.mk (below_step HB.out hb)
          clear hb
          go_wp2_with fail
          refine (alive_any _).mono ?_
          rintro e1 w4 ⟨rfl, hb⟩
          have HB2 := Aside0.mk (below_step HB.out hb)
          clear hb
          go_wp2_with fail
          go_ret
          exact ⟨rfl, HB2.out⟩
        | true =>
          have H1 := Aside0.mk hn1
          cases hn2 : nearB x y with
          | false =>
            have H2 := Aside0.mk hn2
            clear hn1 hn2
            go_wp2_with fail
            refine (near_any _ _ _).mono ?_
            rintro e1 w3 ⟨rfl, hb⟩
            rw [H1.out]
            replace HB := Aside0.mk (below_step HB.out hb)
            replace y0 := cell_on hb y0; replace y1 := cell_on hb y1
            clear hb c0 c1
            go_wp2_with fail
            refine (near_any _ _ _).mono ?_
            rintro e1 w3 ⟨rfl, hb⟩
            rw [H2.out]
            replace HB := Aside0.mk (below_step HB.out hb)
            clear hb
            go_wp2_with fail
            refine (alive_any _).mono ?_
            rintro e1 w4 ⟨rfl, hb⟩
            have HB2 := Aside0.mk (below_step HB.out hb)
            clear hb
            go_wp2_with fail
            go_ret
            exact ⟨rfl, HB2.out⟩
          | true =>
            have MY := Aside0.mk hn2
            rw [nearB_iff] at hn1
            have hn2 := MY.out
            rw [nearB_iff] at hn2
            have u0 : IntKind.i64.wrap (a + x) = a + x := IntWalk.i64_in _ (by omega)
            have u1 : IntKind.i64.wrap (b + y) = b + y := IntWalk.i64_in _ (by omega)
            clear hn1 hn2
            go_wp2_with fail
            refine (near_any _ _ _).mono ?_
            rintro e1 w3 ⟨rfl, hb⟩
            rw [H1.out]
            replace KL := Aside0.mk (blk_below KL.out hb); replace KY := Aside0.mk (blk_below KY.out hb); replace HB := Aside0.mk (below_step HB.out hb)
            clear hb y0 y1 c0 c1
            have y0 := cell0 0 KY.out rfl; have y1 := cell0 1 KY.out rfl; have c0 := cell0 0 KL.out rfl; have c1 := cell0 1 KL.out rfl
            go_wp2_with fail
            refine (near_any _ _ _).mono ?_
            rintro e1 w4 ⟨rfl, hb⟩
            rw [MY.out]
            replace KL := Aside0.mk (blk_below KL.out hb); replace KY := Aside0.mk (blk_below KY.out hb); replace HB := Aside0.mk (below_step HB.out hb)
            clear hb y0 y1 c0 c1
            have y0 := cell0 0 KY.out rfl; have y1 := cell0 1 KY.out rfl; have c0 := cell0 0 KL.out rfl; have c1 := cell0 1 KL.out rfl
            have fz0 := blk_frozen KL.out 0; have fz1 := blk_frozen KL.out 1
            go_wp2_with fail
            go_still_tail 17, (by kernel_rfl)
            change wpList _ _ _ _ _ w4.drew
            replace KL := Aside0.mk (show w4.drew.heap[w.heap.size]? = _ from KL.out)
            replace KY := Aside0.mk (show w4.drew.heap[w.heap.size + 1]? = _ from KY.out)
            replace HB := Aside0.mk (below_drew1 HB.out)
            generalize w4.drew = w5 at KL KY HB ⊢
            clear y0 y1 c0 c1 fz0 fz1
            have y0 := cell0 0 KY.out rfl; have y1 := cell0 1 KY.out rfl; have c0 := cell0 0 KL.out rfl; have c1 := cell0 1 KL.out rfl
            have fz0 := blk_frozen KL.out 0; have fz1 := blk_frozen KL.out 1
            go_wp2_with fail
            have KL2 := blk_set (blk_set KL.out 0 (.int .i64 (a + x))) 1 (.int .i64 (b + y))
            have KY2 : ((w5.setCell ⟨w.heap.size, 0, none⟩ (.int .i64 (a + x))).setCell ⟨w.heap.size, 1, none⟩ (.int .i64 (b + y))).heap[w.heap.size + 1]? = _ := (Go.Deep.blk_setCell_other _ _ _ _ (by simp)).trans ((Go.Deep.blk_setCell_other _ _ _ _ (by simp)).trans KY.out)
            refine ⟨⟨⟨below_set (below_set HB.out (Nat.le_refl _)) (Nat.le_refl _)⟩, ⟨KY2⟩, Or.inr (Or.inl ?_)⟩, by first | trivial | decide | (simp [intOf]; done)⟩
            refine ⟨rfl, ?_⟩
            repeat (first | exact Aside0.mk KL2 | refine ⟨(by first | exact Aside0.mk trivial | assumption), ?_⟩)
      · have c0 := cell0 2 KL.out rfl; have c1 := cell0 3 KL.out rfl
        cases hn1 : nearB c e with
        | false =>
          have H1 := Aside0.mk hn1
          clear hn1
          go_wp2_with fail
          refine (near_any _ _ _).mono ?_
          rintro e1 w3 ⟨rfl, hb⟩
          rw [H1.out]
          replace HB := Aside0.mk (below_step HB.out hb)
          clear hb
          go_wp2_with fail
          refine (alive_any _).mono ?_
          rintro e1 w4 ⟨rfl, hb⟩
          have HB2 := Aside0.mk (below_step HB.out hb)
          clear hb
          go_wp2_with fail
          go_ret
          exact ⟨rfl, HB2.out⟩
        | true =>
          have H1 := Aside0.mk hn1
          rw [nearB_iff] at hn1
          have hn2 := MY.out
          rw [nearB_iff] at hn2
          have u0 : IntKind.i64.wrap (c + x) = c + x := IntWalk.i64_in _ (by omega)
          have u1 : IntKind.i64.wrap (e + y) = e + y := IntWalk.i64_in _ (by omega)
          clear hn1 hn2
          go_wp2_with fail
          refine (near_any _ _ _).mono ?_
          rintro e1 w3 ⟨rfl, hb⟩
          rw [H1.out]
          replace KL := Aside0.mk (blk_below KL.out hb); replace KY := Aside0.mk (blk_below KY.out hb); replace HB := Aside0.mk (below_step HB.out hb)
          clear hb y0 y1 c0 c1
          have y0 := cell0 0 KY.out rfl; have y1 := cell0 1 KY.out rfl; have c0 := cell0 2 KL.out rfl; have c1 := cell0 3 KL.out rfl
          go_wp2_with fail
          refine (near_any _ _ _).mono ?_
          rintro e1 w4 ⟨rfl, hb⟩
          rw [MY.out]
          replace KL := Aside0.mk (blk_below KL.out hb); replace KY := Aside0.mk (blk_below KY.out hb); replace HB := Aside0.mk (below_step HB.out hb)
          clear hb y0 y1 c0 c1
          have y0 := cell0 0 KY.out rfl; have y1 := cell0 1 KY.out rfl; have c0 := cell0 2 KL.out rfl; have c1 := cell0 3 KL.out rfl
          have fz0 := blk_frozen KL.out 2; have fz1 := blk_frozen KL.out 3
          go_wp2_with fail
          go_still_tail 17, (by kernel_rfl)
          change wpList _ _ _ _ _ w4.drew
          replace KL := Aside0.mk (show w4.drew.heap[w.heap.size]? = _ from KL.out)
          replace KY := Aside0.mk (show w4.drew.heap[w.heap.size + 1]? = _ from KY.out)
          replace HB := Aside0.mk (below_drew1 HB.out)
          generalize w4.drew = w5 at KL KY HB ⊢
          clear y0 y1 c0 c1 fz0 fz1
          have y0 := cell0 0 KY.out rfl; have y1 := cell0 1 KY.out rfl; have c0 := cell0 2 KL.out rfl; have c1 := cell0 3 KL.out rfl
          have fz0 := blk_frozen KL.out 2; have fz1 := blk_frozen KL.out 3
          go_wp2_with fail
          have KL2 := blk_set (blk_set KL.out 2 (.int .i64 (c + x))) 3 (.int .i64 (e + y))
          have KY2 : ((w5.setCell ⟨w.heap.size, 2, none⟩ (.int .i64 (c + x))).setCell ⟨w.heap.size, 3, none⟩ (.int .i64 (e + y))).heap[w.heap.size + 1]? = _ := (Go.Deep.blk_setCell_other _ _ _ _ (by simp)).trans ((Go.Deep.blk_setCell_other _ _ _ _ (by simp)).trans KY.out)
          refine ⟨⟨⟨below_set (below_set HB.out (Nat.le_refl _)) (Nat.le_refl _)⟩, ⟨KY2⟩, Or.inr (Or.inr (Or.inl ?_))⟩, by first | trivial | decide | (simp [intOf]; done)⟩
          refine ⟨rfl, ?_⟩
          repeat (first | exact Aside0.mk KL2 | refine ⟨(by first | exact Aside0.mk trivial | assumption), ?_⟩)
      · have c0 := cell0 4 KL.out rfl; have c1 := cell0 5 KL.out rfl
        cases hn1 : nearB f g with
        | false =>
          have H1 := Aside0.mk hn1
          clear hn1
          go_wp2_with fail
          refine (near_any _ _ _).mono ?_
          rintro e1 w3 ⟨rfl, hb⟩
          rw [H1.out]
          replace HB := Aside0.mk (below_step HB.out hb)
          clear hb
          go_wp2_with fail
          refine (alive_any _).mono ?_
          rintro e1 w4 ⟨rfl, hb⟩
          have HB2 := Aside0.mk (below_step HB.out hb)
          clear hb
          go_wp2_with fail
          go_ret
          exact ⟨rfl, HB2.out⟩
        | true =>
          have H1 := Aside0.mk hn1
          rw [nearB_iff] at hn1
          have hn2 := MY.out
          rw [nearB_iff] at hn2
          have u0 : IntKind.i64.wrap (f + x) = f + x := IntWalk.i64_in _ (by omega)
          have u1 : IntKind.i64.wrap (g + y) = g + y := IntWalk.i64_in _ (by omega)
          clear hn1 hn2
          go_wp2_with fail
          refine (near_any _ _ _).mono ?_
          rintro e1 w3 ⟨rfl, hb⟩
          rw [H1.out]
          replace KL := Aside0.mk (blk_below KL.out hb); replace KY := Aside0.mk (blk_below KY.out hb); replace HB := Aside0.mk (below_step HB.out hb)
          clear hb y0 y1 c0 c1
          have y0 := cell0 0 KY.out rfl; have y1 := cell0 1 KY.out rfl; have c0 := cell0 4 KL.out rfl; have c1 := cell0 5 KL.out rfl
          go_wp2_with fail
          refine (near_any _ _ _).mono ?_
          rintro e1 w4 ⟨rfl, hb⟩
          rw [MY.out]
          replace KL := Aside0.mk (blk_below KL.out hb); replace KY := Aside0.mk (blk_below KY.out hb); replace HB := Aside0.mk (below_step HB.out hb)
          clear hb y0 y1 c0 c1
          have y0 := cell0 0 KY.out rfl; have y1 := cell0 1 KY.out rfl; have c0 := cell0 4 KL.out rfl; have c1 := cell0 5 KL.out rfl
          have fz0 := blk_frozen KL.out 4; have fz1 := blk_frozen KL.out 5
          go_wp2_with fail
          go_still_tail 17, (by kernel_rfl)
          change wpList _ _ _ _ _ w4.drew
          replace KL := Aside0.mk (show w4.drew.heap[w.heap.size]? = _ from KL.out)
          replace KY := Aside0.mk (show w4.drew.heap[w.heap.size + 1]? = _ from KY.out)
          replace HB := Aside0.mk (below_drew1 HB.out)
          generalize w4.drew = w5 at KL KY HB ⊢
          clear y0 y1 c0 c1 fz0 fz1
          have y0 := cell0 0 KY.out rfl; have y1 := cell0 1 KY.out rfl; have c0 := cell0 4 KL.out rfl; have c1 := cell0 5 KL.out rfl
          have fz0 := blk_frozen KL.out 4; have fz1 := blk_frozen KL.out 5
          go_wp2_with fail
          have KL2 := blk_set (blk_set KL.out 4 (.int .i64 (f + x))) 5 (.int .i64 (g + y))
          have KY2 : ((w5.setCell ⟨w.heap.size, 4, none⟩ (.int .i64 (f + x))).setCell ⟨w.heap.size, 5, none⟩ (.int .i64 (g + y))).heap[w.heap.size + 1]? = _ := (Go.Deep.blk_setCell_other _ _ _ _ (by simp)).trans ((Go.Deep.blk_setCell_other _ _ _ _ (by simp)).trans KY.out)
          refine ⟨⟨⟨below_set (below_set HB.out (Nat.le_refl _)) (Nat.le_refl _)⟩, ⟨KY2⟩, Or.inr (Or.inr (Or.inr ?_))⟩, by first | trivial | decide | (simp [intOf]; done)⟩
          refine ⟨rfl, ?_⟩
          repeat (first | exact Aside0.mk KL2 | refine ⟨(by first | exact Aside0.mk trivial | assumption), ?_⟩)
      · have c0 := cell0 0 KL.out rfl; have c1 := cell0 1 KL.out rfl; have c2 := cell0 2 KL.out rfl; have c3 := cell0 3 KL.out rfl; have c4 := cell0 4 KL.out rfl; have c5 := cell0 5 KL.out rfl
        clear y0 y1
        go_wp2_with fail
        refine (alive_any _).mono ?_
        rintro e1 w4 ⟨rfl, hb⟩
        replace KL := Aside0.mk (blk_below KL.out hb); replace HB := Aside0.mk (below_step HB.out hb)
        clear hb c0 c1 c2 c3 c4 c5
        have c0 := cell0 0 KL.out rfl; have c1 := cell0 1 KL.out rfl; have c2 := cell0 2 KL.out rfl; have c3 := cell0 3 KL.out rfl; have c4 := cell0 4 KL.out rfl; have c5 := cell0 5 KL.out rfl
        go_wp2_with fail
        refine (cross_any _ _ _ _ _ _ _).mono ?_
        rintro e1 w6 ⟨rfl, hb⟩
        rw [crossB_moved M0.out M1.out M2.out MY.out, NN.out]
        have HB2 := Aside0.mk (below_step HB.out hb)
        clear hb c0 c1 c2 c3 c4 c5
        go_wp2_with fail
        go_ret
        exact ⟨rfl, HB2.out⟩
end Go.Proofs.Ytpfgjagpaddcpaa.Own
