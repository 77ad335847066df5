import Derived.Test.YtpfgjagpaddcpaaEd1
import Derived.Test.YtpfgjagpaddcpaaBa6
/-! Texts that this law leans on, put together by a program of this session: Q2 G7 G10. -/
/-! Wind by a ray to the right, and by a ray upwards: the same around rings; the reference's edges, right and Wind. -/
namespace Go.Proofs.Ytpfgjagpaddcpaa.Own
open Go.RowKit Go.Proofs.YtpfgjagpaddcpaaW.PrintWords Go.Proofs.YtpfgjagpaddcpaaW.PrintLast Go.Proofs.YtpfgjagpaddcpaaW.PrintMore
open Go.Proofs.Ytpfgjagpaddcpaa.X
set_option linter.unusedVariables false
set_option linter.unusedSimpArgs false

/-! #### the two rays -/
/-! #### the reference's edges -/
def tag (t : Int) (e : S23 × S23) : S68 := ⟨e.1, e.2, t⟩

theorem edges1_ev (ls : List (List S23)) (t : Int) (i : Nat) (r : List S23) (hr : r.length ≤ 1000000000000) (rest : List S68) (hl : ls.length ≤ 1000000000000) (hi : i ≤ 1000000000000)
    (hv : ∀ acc : List S68, acc.length + rest.length ≤ 1000000000000 → Ev (fun k => cobwebref11_edges.l0 k ls t acc ((i + 1 : Nat) : Int)) (acc ++ rest)) :
    ∀ (m j : Nat) (acc : List S68), r.length - j = m → j ≤ r.length → acc.length + (r.length - j) + rest.length ≤ 1000000000000 → Ev (fun k => cobwebref11_edges.l1 k ls t acc i r j) (acc ++ (((edgs r).drop j).map (tag t) ++ rest)) := by
  intro m
  induction m with
  | zero =>
    intro j acc hm hj hb
    obtain rfl : j = r.length := by omega
    rw [← edgs_length r, List.drop_length, edgs_length]
    refine Ev.step (hv acc (by omega)) fun k => ?_
    simp only [cobwebref11_edges.l1, if_neg (show ¬ (r.length : Int) < (r.length : Int) by omega)]
    rw [wrap_id (by omega)]
    rfl
  | succ m ih =>
    intro j acc hm hj hb
    have hlt : j < r.length := by omega
    have hlt' : (j : Int) < (r.length : Int) := by omega
    have he : (edgs r).drop j = (r.getD j z23, r.getD ((j + 1) % r.length) z23) :: (edgs r).drop (j + 1) := by
      have h := edgs_get r j hlt
      obtain ⟨h1, h2⟩ := List.getElem?_eq_some_iff.1 h
      rw [List.drop_eq_getElem_cons h1, h2]
    rw [he]
    have hd : acc ++ (((r.getD j z23, r.getD ((j + 1) % r.length) z23) :: (edgs r).drop (j + 1)).map (tag t) ++ rest) = (acc ++ [tag t (r.getD j z23, r.getD ((j + 1) % r.length) z23)]) ++ (((edgs r).drop (j + 1)).map (tag t) ++ rest) := by simp
    rw [hd]
    refine Ev.step (ih (j + 1) _ (by omega) (by omega) (by simp; omega)) fun k => ?_
    have hw : wrap64 ((j : Int) + 1) = (j : Int) + 1 := wrap_id (by omega)
    have hp : rd_T23 r (j : Int) = r.getD j z23 := by simp [rd_T23]
    simp only [cobwebref11_edges.l1, if_pos hlt', if_pos (show (0 : Int) < (r.length : Int) by omega), hw, if_pos (show (0 : Int) ≤ (j : Int) by omega), if_pos (show acc.length < 3518437208883 by omega), if_pos (show (0 : Int) ≤ (j : Int) + 1 by omega), hp]
    by_cases hn : (j : Int) + 1 < (r.length : Int)
    · rw [if_pos hn, Nat.mod_eq_of_lt (by omega)]
      have hq : rd_T23 r ((j : Int) + 1) = r.getD (j + 1) z23 := by unfold rd_T23; congr 1
      rw [hq]
      rfl
    · rw [if_neg hn, show j + 1 = r.length by omega, Nat.mod_self]
      have : (r.length : Int) = (j : Int) + 1 := by omega
      rw [← this]
      rfl

theorem edges_ev (ls : List (List S23)) (t : Int) (hl : ls.length ≤ 1000000000000) : ∀ (m i : Nat) (acc : List S68), ls.length - i = m → i ≤ ls.length → acc.length + (allE (ls.drop i)).length ≤ 1000000000000 →
    Ev (fun k => cobwebref11_edges.l0 k ls t acc i) (acc ++ (allE (ls.drop i)).map (tag t)) := by
  intro m
  induction m with
  | zero =>
    intro i acc hm hi hb
    obtain rfl : i = ls.length := by omega
    rw [List.drop_length]
    refine Ev.step (Ev.const _) fun k => ?_
    simp only [cobwebref11_edges.l0, if_neg (show ¬ (ls.length : Int) < (ls.length : Int) by omega)]
    simp [allE]
  | succ m ih =>
    intro i acc hm hi hb
    have hlt : i < ls.length := by omega
    have he : allE (ls.drop i) = edgs (ls.getD i []) ++ allE (ls.drop (i + 1)) := by rw [getD_drop ls [] i hlt]; rfl
    rw [he, List.length_append, edgs_length] at hb
    rw [he, List.map_append]
    have hr' : rd_L2 ls (i : Int) = ls.getD i [] := by simp [rd_L2]
    generalize ls.getD i [] = r at hr' hb ⊢
    have h1 := edges1_ev ls t i r (by omega) ((allE (ls.drop (i + 1))).map (tag t)) hl (by omega) (fun acc' h => ih (i + 1) acc' (by omega) (by omega) (by simpa using h)) r.length 0 acc (by omega) (by omega) (by simp; omega)
    rw [List.drop_zero] at h1
    refine Ev.step h1 fun k => ?_
    simp only [cobwebref11_edges.l0, if_pos (show (i : Int) < (ls.length : Int) by omega), if_pos (show (0 : Int) ≤ (i : Int) by omega), hr']
    rfl

theorem edges_f (ls : List (List S23)) (t : Int) (hl : ls.length ≤ 1000000000000) (hb : (allE ls).length ≤ 1000000000000) : Ev (fun k => cobwebref11_edges.f k ls t) ((allE ls).map (tag t)) := by
  have := edges_ev ls t hl ls.length 0 [] (by omega) (by omega) (by simpa using hb)
  rw [List.drop_zero, List.nil_append] at this
  exact this.congr fun k => rfl

/-! #### right -/
/-! #### the reference's Wind -/
end Go.Proofs.Ytpfgjagpaddcpaa.Own

/-! InputWinds, walked. -/
namespace Go.Proofs.Ytpfgjagpaddcpaa.Own
open Go.RowKit Go.Proofs.YtpfgjagpaddcpaaW.PrintWords Go.Proofs.YtpfgjagpaddcpaaW.PrintLast Go.Proofs.YtpfgjagpaddcpaaW.PrintMore
open Go.Proofs.Ytpfgjagpaddcpaa.X
set_option linter.unusedVariables false
set_option linter.unusedSimpArgs false

theorem allE_sum (ls : List (List S23)) : (allE ls).length = sumL ls := by
  induction ls with
  | nil => rfl
  | cons r rs ih =>
    have e : allE (r :: rs) = edgs r ++ allE rs := rfl
    rw [e, List.length_append, edgs_length, ih]
    simp [sumL]

end Go.Proofs.Ytpfgjagpaddcpaa.Own

/-! InputEdges, walked. -/
namespace Go.Proofs.Ytpfgjagpaddcpaa.Own
open Go.RowKit Go.Proofs.YtpfgjagpaddcpaaW.PrintWords Go.Proofs.YtpfgjagpaddcpaaW.PrintLast Go.Proofs.YtpfgjagpaddcpaaW.PrintMore
open Go.Proofs.Ytpfgjagpaddcpaa.X
set_option linter.unusedVariables false
set_option linter.unusedSimpArgs false

/-- All edges of two areas. -/
def tagE (la lb : List (List S23)) : List S68 := (allE la).map (tag 0) ++ (allE lb).map (tag 1)
theorem tagE_len (la lb : List (List S23)) : (tagE la lb).length = sumL la + sumL lb := by
  unfold tagE
  rw [List.length_append, List.length_map, List.length_map, allE_sum, allE_sum]

theorem reps_tag (w : World) (t : Int) (es : List (S23 × S23)) : ∀ (ps : List S68) (cs : List Value), Reps (k68.K w) 5 ps cs → Reps (k68.K w) 5 (ps ++ es.map (tag t)) (cs ++ edCs t es) := by
  induction es with
  | nil => intro ps cs h; simpa [edCs] using h
  | cons e es ih =>
    intro ps cs h
    have h1 := h.snoc (p := tag t e) (c := edC t e) (k68_mk w (tag t e)) rfl
    have h2 := ih _ _ h1
    have e1 : ps ++ (e :: es).map (tag t) = (ps ++ [tag t e]) ++ es.map (tag t) := by simp
    have e2 : cs ++ edCs t (e :: es) = (cs ++ edC t e) ++ edCs t es := by simp [edCs]
    rw [e1, e2]
    exact h2

theorem edges2_any (A B : Option Addr) (ca cb : Nat) (la lb : List (List S23)) (o f r c : Int) (w : World) (hA : Kd.C (Kd.slice 23 k23) w A la.length la) (hca : la.length ≤ ca) (hB : Kd.C (Kd.slice 23 k23) w B lb.length lb) (hcb : lb.length ≤ cb) (hl : la.length + sumL la + (lb.length + sumL lb) ≤ 1048576) :
    Calls Try.prog 47 #[.agg #[.slice A la.length ca, .slice B lb.length cb, .int .i64 o, .int .i64 f, .int .i64 r, .int .i64 c]] w fun e w' => (∃ A' c', e = .returned (.slice A' (tagE la lb).length c') ∧ Aside0 (Kd.C k68 w' A' (tagE la lb).length (tagE la lb))) ∧ Below w.heap.size w w' := by
  refine (edges_any A B ca cb la lb o f r c w hA hB (by rw [allE_sum, allE_sum]; omega) (by omega) (by omega)).mono ?_
  rintro e w' ⟨v, rfl, hown, hb⟩
  have hr := reps_tag w' 1 (allE lb) _ _ (reps_tag w' 0 (allE la) [] [] (Reps.none _ _))
  rw [List.nil_append, List.nil_append] at hr
  have hn : (tagE la lb).length = (allE la).length + (allE lb).length := by unfold tagE; rw [List.length_append, List.length_map, List.length_map]
  obtain ⟨A', c', rfl, h⟩ := own_reads_row hown hr hn
  exact ⟨⟨A', c', by rw [hn], ⟨by rw [hn]; exact h⟩⟩, hb⟩

theorem redges2_any (A B : Option Addr) (ca cb : Nat) (la lb : List (List S23)) (o f r c : Int) (w : World) (hA : Kd.C (Kd.slice 23 k23) w A la.length la) (hca : la.length ≤ ca) (hB : Kd.C (Kd.slice 23 k23) w B lb.length lb) (hcb : lb.length ≤ cb) (hl : la.length + sumL la + (lb.length + sumL lb) ≤ 1048576) :
    Calls Try.prog 48 #[.agg #[.slice A la.length ca, .slice B lb.length cb, .int .i64 o, .int .i64 f, .int .i64 r, .int .i64 c]] w fun e w' => (∃ A' c', e = .returned (.slice A' (tagE la lb).length c') ∧ Aside0 (Kd.C k68 w' A' (tagE la lb).length (tagE la lb))) ∧ Below w.heap.size w w' := by
  have hE : Ev (fun k => cobwebref11_Edges.f k la lb o f r c) (tagE la lb) := by
    refine Ev.bind (f := fun k t279 => (cobwebref11_edges.f k lb 1).bind fun t282 => (if t279.length + t282.length < 3518437208883 then (some (t279 ++ t282)) else (none))) (edges_f la 0 (by omega) (by rw [allE_sum]; omega)) ?_
    refine Ev.bind (f := fun k t282 => (if ((allE la).map (tag 0)).length + t282.length < 3518437208883 then (some ((allE la).map (tag 0) ++ t282)) else (none))) (edges_f lb 1 (by omega) (by rw [allE_sum]; omega)) ?_
    refine (Ev.const (tagE la lb)).congr fun k => ?_
    rw [if_pos (by rw [List.length_map, List.length_map, allE_sum, allE_sum]; omega)]
    rfl
  obtain ⟨k, hk⟩ := hE.get
  refine (cobwebref11_Edges.calls k A ca la B cb lb o f r c _ w hA hca hB hcb hk).mono ?_
  rintro e w' ⟨v, rfl, hR, hb⟩
  obtain ⟨A', c', rfl, _, h⟩ := Kd.R_reads hR
  exact ⟨⟨A', c', rfl, ⟨h⟩⟩, hb⟩

set_option maxRecDepth 100000 in
set_option maxHeartbeats 16000000 in
theorem inputEdges_walk (w : World) (A : Option Addr) (ca : Nat) (la : List (List S23)) (hca : la.length ≤ ca) (hA : Kd.C (Kd.slice 23 k23) w A la.length la) (B : Option Addr) (cb : Nat) (lb : List (List S23)) (hcb : lb.length ≤ cb) (hB : Kd.C (Kd.slice 23 k23) w B lb.length lb)
    (o f r c : Int) (hl : la.length + sumL la + (lb.length + sumL lb) ≤ 1048576) :
    Calls Try.prog 14 #[.agg #[.slice A la.length ca, .slice B lb.length cb, .int .i64 o, .int .i64 f, .int .i64 r, .int .i64 c]] w fun e w' => e = .returned (.bool true) ∧ Below w.heap.size w w' := by
  have hu37 := Try.underlying37
  have hu41 := Try.underlying41
  have hu67 := Try.underlying67
  have hu68 := Try.underlying68
  have HA := Aside0.mk hA
  have HB := Aside0.mk hB
  have HCA := Aside0.mk hca
  have HCB := Aside0.mk hcb
  have HL := Aside0.mk hl
  obtain ⟨M, hM⟩ : ∃ M : Int, ((la.length + lb.length + sumL la + sumL lb : Nat) : Int) = M := ⟨_, rfl⟩
  have HM := Aside0.mk (show ∀ w', Below w.heap.size w w' → Calls Try.prog 36 #[.agg #[.slice A la.length ca, .slice B lb.length cb, .int .i64 o, .int .i64 f, .int .i64 r, .int .i64 c]] w' fun e w'' => e = .returned (.int .i64 M) ∧ Below w'.heap.size w' w'' from
    fun w' hb => hM ▸ many_any A B ca cb la lb o f r c w' (Kd.C_below hA hb) hca (Kd.C_below hB hb) hcb (by omega))
  obtain ⟨n, hn⟩ : ∃ n, (tagE la lb).length = n := ⟨_, rfl⟩
  have HN := Aside0.mk hn
  have hnn : M = la.length + lb.length + n ∧ n ≤ 1048576 := by rw [← hM, ← hn, tagE_len]; omega
  have HNN := Aside0.mk hnn
  clear hA hB hca hcb hl hM hn hnn
  go_enter Try.func14, Try.ntmps14
  have hk := blk_new w (.cells #[.slice A la.length ca, .slice B lb.length cb, .int .i64 o, .int .i64 f, .int .i64 r, .int .i64 c] 37)
  have HW0 := Aside0.mk (below_alloc (Below.refl w.heap.size w) (.cells #[.slice A la.length ca, .slice B lb.length cb, .int .i64 o, .int .i64 f, .int .i64 r, .int .i64 c] 37))
  have K0 := Aside0.mk hk
  clear hk
  by_cases h1 : 600 < M
  · have d1 : decide (600 < M) = true := decide_eq_true h1
    go_wp2_with (go_at_call 36; (with_reducible refine (HM.out _ HW0.out).mono ?_); rintro e w1 ⟨rfl, hb⟩)
    refine (alive11_any _).mono ?_
    rintro e w2 ⟨rfl, hb2⟩
    go_wp2_with fail
    go_ret
    exact ⟨rfl, below_step (below_step HW0.out hb) hb2⟩
  · have d1 : decide (600 < M) = false := decide_eq_false h1
    go_wp2_with (go_at_call 36; (with_reducible refine (HM.out _ HW0.out).mono ?_); rintro e w1 ⟨rfl, hb⟩; have HB0 := Aside0.mk hb; clear hb)
    have k1 := blk_below K0.out HB0.out
    have hw1 := below_step HW0.out HB0.out
    clear HW0 K0 HB0 h1 d1
    have HW0 := Aside0.mk hw1
    have K0 := Aside0.mk k1
    clear hw1 k1
    obtain ⟨g, hg⟩ : ∃ g, w.heap.size = g := ⟨_, rfl⟩
    rw [hg] at K0 ⊢
    have HGG := Aside0.mk hg
    clear hg
    generalize w1 = W0 at HW0 K0 ⊢
    have c0 := cell0 0 K0.out rfl; have c1 := cell0 1 K0.out rfl; have c2 := cell0 2 K0.out rfl; have c3 := cell0 3 K0.out rfl; have c4 := cell0 4 K0.out rfl; have c5 := cell0 5 K0.out rfl
    go_region_held3 (fun w' => Below W0.heap.size W0 w' ∧ w'.cell? ⟨g, 0, none⟩ = some (.slice A la.length ca) ∧ w'.cell? ⟨g, 1, none⟩ = some (.slice B lb.length cb) ∧ w'.cell? ⟨g, 2, none⟩ = some (.int .i64 o) ∧ w'.cell? ⟨g, 3, none⟩ = some (.int .i64 f) ∧ w'.cell? ⟨g, 4, none⟩ = some (.int .i64 r) ∧ w'.cell? ⟨g, 5, none⟩ = some (.int .i64 c))
    (first | (exact ⟨below_drew1 (Below.refl _ _), (World.cell?_drew _ _).trans c0, (World.cell?_drew _ _).trans c1, (World.cell?_drew _ _).trans c2, (World.cell?_drew _ _).trans c3, (World.cell?_drew _ _).trans c4, (World.cell?_drew _ _).trans c5⟩) | (have hH := ‹Below _ _ _ ∧ _›; exact ⟨below_step hH.1 ‹Below _ _ _›, cell_on ‹Below _ _ _› hH.2.1, cell_on ‹Below _ _ _› hH.2.2.1, cell_on ‹Below _ _ _› hH.2.2.2.1, cell_on ‹Below _ _ _› hH.2.2.2.2.1, cell_on ‹Below _ _ _› hH.2.2.2.2.2.1, cell_on ‹Below _ _ _› hH.2.2.2.2.2.2⟩) | (have hH := ‹Below _ _ _ ∧ _›; exact ⟨pw_below_drewN hH.1 _, hH.2.1, hH.2.2.1, hH.2.2.2.1, hH.2.2.2.2.1, hH.2.2.2.2.2.1, hH.2.2.2.2.2.2⟩))
    ((first
    | (go_at_call 47; (with_reducible refine (edges2_any _ _ _ _ _ _ _ _ _ _ _ (Kd.C_below HA.out (below_step HW0.out (‹Below W0.heap.size W0 _ ∧ _›).1)) HCA.out (Kd.C_below HB.out (below_step HW0.out (‹Below W0.heap.size W0 _ ∧ _›).1)) HCB.out HL.out).mono ?_); rintro e w4 ⟨⟨Ag, cg, rfl, HG⟩, hb⟩)
    | (go_at_call 48; (with_reducible refine (redges2_any _ _ _ _ _ _ _ _ _ _ _ (Kd.C_below HA.out (below_step HW0.out (‹Below W0.heap.size W0 _ ∧ _›).1)) HCA.out (Kd.C_below HB.out (below_step HW0.out (‹Below W0.heap.size W0 _ ∧ _›).1)) HCB.out HL.out).mono ?_); rintro e w5 ⟨⟨Aw, cw, rfl, HW⟩, hb⟩; have HG2 := Aside0.mk (Kd.C_below HG.out hb))))
    have hh := ‹Below W0.heap.size W0 _ ∧ _›
    have HW1 := Aside0.mk (below_step HW0.out hh.1)
    clear c0 c1 c2 c3 c4 c5
    obtain ⟨_, c0, c1, c2, c3, c4, c5⟩ := hh
    have HG3 := Aside0.mk (show Kd.C k68 w5 Ag n (tagE la lb) by rw [← HN.out]; exact HG2.out)
    have HW3 := Aside0.mk (show Kd.C k68 w5 Aw n (tagE la lb) by rw [← HN.out]; exact HW.out)
    generalize w5 = W1 at HW1 HG3 HW3 c0 c1 c2 c3 c4 c5 ⊢
    rw [HN.out]
    obtain ⟨b1, b2⟩ := HNN.out
    have hx1 : IntKind.i64.wrap (M - (la.length : Int)) = (lb.length : Int) + n := by rw [show M - (la.length : Int) = (lb.length : Int) + n by omega]; exact IntWalk.i64_in _ (by have := HL.out; omega)
    have hx2 : IntKind.i64.wrap ((lb.length : Int) + n - (lb.length : Int)) = (n : Int) := by rw [show (lb.length : Int) + n - (lb.length : Int) = n by omega]; exact IntWalk.i64_in _ (by omega)
    clear b1
    go_wp2_with fail
    go_region_held3 (fun w' => Below W1.heap.size W1 w' ∧ w'.cell? ⟨g, 0, none⟩ = some (.slice A la.length ca) ∧ w'.cell? ⟨g, 1, none⟩ = some (.slice B lb.length cb) ∧ w'.cell? ⟨g, 2, none⟩ = some (.int .i64 o) ∧ w'.cell? ⟨g, 3, none⟩ = some (.int .i64 f) ∧ w'.cell? ⟨g, 4, none⟩ = some (.int .i64 r) ∧ w'.cell? ⟨g, 5, none⟩ = some (.int .i64 c))
    (first | (exact ⟨below_drew1 (Below.refl _ _), (World.cell?_drew _ _).trans c0, (World.cell?_drew _ _).trans c1, (World.cell?_drew _ _).trans c2, (World.cell?_drew _ _).trans c3, (World.cell?_drew _ _).trans c4, (World.cell?_drew _ _).trans c5⟩) | (have hH := ‹Below _ _ _ ∧ _›; exact ⟨below_step hH.1 ‹Below _ _ _›, cell_on ‹Below _ _ _› hH.2.1, cell_on ‹Below _ _ _› hH.2.2.1, cell_on ‹Below _ _ _› hH.2.2.2.1, cell_on ‹Below _ _ _› hH.2.2.2.2.1, cell_on ‹Below _ _ _› hH.2.2.2.2.2.1, cell_on ‹Below _ _ _› hH.2.2.2.2.2.2⟩) | (have hH := ‹Below _ _ _ ∧ _›; exact ⟨pw_below_drewN hH.1 _, hH.2.1, hH.2.2.1, hH.2.2.2.1, hH.2.2.2.2.1, hH.2.2.2.2.2.1, hH.2.2.2.2.2.2⟩))
    ((first
    | (go_at_call 36; (with_reducible refine (HM.out _ (below_step HW1.out (‹Below W1.heap.size W1 _ ∧ _›).1)).mono ?_); rintro e w6 ⟨rfl, hb⟩)))
    have HB6 := Aside0.mk (‹Below W1.heap.size W1 _ ∧ _›).1
    have HG6 := Aside0.mk (Kd.C_below HG3.out HB6.out)
    have HW6 := Aside0.mk (Kd.C_below HW3.out HB6.out)
    have HT6 := Aside0.mk (below_step HW1.out HB6.out)
    generalize w6 = W6 at HG6 HW6 HT6 ⊢
    clear c0 c1 c2 c3 c4 c5 hx1 hx2
    go_wp2_with fail
    go_loopw [37] (fun i wr => ∃ j : Nat, i = .int .i64 j ∧ Aside0 (j ≤ n) ∧ Aside0 (Below W6.heap.size W6 wr)) (fun i _ => n - (intOf i).toNat)
    case atStart => exact ⟨0, rfl, ⟨Nat.zero_le _⟩, ⟨Below.refl _ _⟩⟩
    case round =>
      obtain ⟨j, rfl, Hj, HBr⟩ := hrel
      have hj := Hj.out
      by_cases hlt : j < n
      · have hlt' : (j : Int) < (n : Int) := by omega
        have d0 : decide ((j : Int) < (n : Int)) = true := decide_eq_true hlt'
        obtain ⟨ad, e1, y0, y1, y2, y3, y4⟩ := at_T68 (Kd.C_below HG6.out HBr.out) (j : Int) (by omega) hlt'
        cases e1
        obtain ⟨ad', e1, z0, z1, z2, z3, z4⟩ := at_T68 (Kd.C_below HW6.out HBr.out) (j : Int) (by omega) hlt'
        cases e1
        simp only [Int.toNat_natCast] at y0 y1 y2 y3 y4 z0 z1 z2 z3 z4
        generalize rd_T68 (tagE la lb) (j : Int) = p at y0 y1 y2 y3 y4 z0 z1 z2 z3 z4
        have q0 : (0 : Int) ≤ (j : Int) := by omega
        have hz := And.intro z0 (And.intro z1 (And.intro z2 (And.intro z3 z4)))
        have HZ := Aside0.mk hz
        clear z0 z1 z2 z3 z4 hz
        go_upto_region 9 with (fail)
        have kb := blk_new wr (.cells #[.int .i64 p.f0.f0, .int .i64 p.f0.f1, .int .i64 p.f1.f0, .int .i64 p.f1.f1, .int .i64 p.f2] 67)
        have hb3 := below_alloc (Below.refl wr.heap.size wr) (.cells #[.int .i64 p.f0.f0, .int .i64 p.f0.f1, .int .i64 p.f1.f0, .int .i64 p.f1.f1, .int .i64 p.f2] 67)
        obtain ⟨gb, hgb⟩ : ∃ gb, wr.heap.size = gb := ⟨_, rfl⟩
        have HB3 := Aside0.mk (below_step HBr.out hb3)
        obtain ⟨z0, z1, z2, z3, z4⟩ := HZ.out
        replace z0 := cell_on hb3 z0; replace z1 := cell_on hb3 z1; replace z2 := cell_on hb3 z2; replace z3 := cell_on hb3 z3; replace z4 := cell_on hb3 z4
        clear hb3 y0 y1 y2 y3 y4
        rw [hgb] at kb ⊢
        generalize wr.alloc (.cells #[.int .i64 p.f0.f0, .int .i64 p.f0.f1, .int .i64 p.f1.f0, .int .i64 p.f1.f1, .int .i64 p.f2] 67) = W3 at kb HB3 z0 z1 z2 z3 z4 ⊢
        have v0 := cell0 0 kb rfl; have v1 := cell0 1 kb rfl; have v2 := cell0 2 kb rfl; have v3 := cell0 3 kb rfl; have v4 := cell0 4 kb rfl
        clear hgb kb
        go_region_held3 (fun w' => Below W3.heap.size W3 w' ∧ w'.cell? ⟨gb, 0, none⟩ = some (.int .i64 p.f0.f0) ∧ w'.cell? ⟨gb, 1, none⟩ = some (.int .i64 p.f0.f1) ∧ w'.cell? ⟨gb, 2, none⟩ = some (.int .i64 p.f1.f0) ∧ w'.cell? ⟨gb, 3, none⟩ = some (.int .i64 p.f1.f1) ∧ w'.cell? ⟨gb, 4, none⟩ = some (.int .i64 p.f2) ∧ w'.cell? (ad'.add (j * 5)) = some (.int .i64 p.f0.f0) ∧ w'.cell? ⟨(ad'.add (j * 5)).block, (ad'.add (j * 5)).off + 1, none⟩ = some (.int .i64 p.f0.f1) ∧ w'.cell? ⟨(ad'.add (j * 5)).block, (ad'.add (j * 5)).off + 2, none⟩ = some (.int .i64 p.f1.f0) ∧ w'.cell? ⟨(ad'.add (j * 5)).block, (ad'.add (j * 5)).off + 3, none⟩ = some (.int .i64 p.f1.f1) ∧ w'.cell? ⟨(ad'.add (j * 5)).block, (ad'.add (j * 5)).off + 4, none⟩ = some (.int .i64 p.f2))
    (first | (exact ⟨below_drew1 (Below.refl _ _), (World.cell?_drew _ _).trans v0, (World.cell?_drew _ _).trans v1, (World.cell?_drew _ _).trans v2, (World.cell?_drew _ _).trans v3, (World.cell?_drew _ _).trans v4, (World.cell?_drew _ _).trans z0, (World.cell?_drew _ _).trans z1, (World.cell?_drew _ _).trans z2, (World.cell?_drew _ _).trans z3, (World.cell?_drew _ _).trans z4⟩) | (have hH := ‹Below _ _ _ ∧ _›; exact ⟨below_step hH.1 ‹Below _ _ _›, cell_on ‹Below _ _ _› hH.2.1, cell_on ‹Below _ _ _› hH.2.2.1, cell_on ‹Below _ _ _› hH.2.2.2.1, cell_on ‹Below _ _ _› hH.2.2.2.2.1, cell_on ‹Below _ _ _› hH.2.2.2.2.2.1, cell_on ‹Below _ _ _› hH.2.2.2.2.2.2.1, cell_on ‹Below _ _ _› hH.2.2.2.2.2.2.2.1, cell_on ‹Below _ _ _› hH.2.2.2.2.2.2.2.2.1, cell_on ‹Below _ _ _› hH.2.2.2.2.2.2.2.2.2.1, cell_on ‹Below _ _ _› hH.2.2.2.2.2.2.2.2.2.2⟩) | (have hH := ‹Below _ _ _ ∧ _›; exact ⟨pw_below_drewN hH.1 _, hH.2.1, hH.2.2.1, hH.2.2.2.1, hH.2.2.2.2.1, hH.2.2.2.2.2.1, hH.2.2.2.2.2.2.1, hH.2.2.2.2.2.2.2.1, hH.2.2.2.2.2.2.2.2.1, hH.2.2.2.2.2.2.2.2.2.1, hH.2.2.2.2.2.2.2.2.2.2⟩))
    ((first
    | (fail)))
        have HB4 := Aside0.mk (below_step HB3.out (‹Below W3.heap.size W3 _ ∧ _›).1)
        clear v0 v1 v2 v3 v4 z0 z1 z2 z3 z4
        have hnb : (n : Int) ≤ 1048576 := by omega
        go_wp2_with fail
        go_roundw
        case rel => exact ⟨j + 1, by go_num, ⟨by omega⟩, HB4⟩
        case measure => simp [intOf]; omega
      · obtain rfl : j = n := by omega
        have d0 : decide ((j : Int) < (j : Int)) = false := by simp
        have HB7 := Aside0.mk (below_step HT6.out HBr.out)
        go_wp2_with fail
        refine (alive11_any _).mono ?_
        rintro e w8 ⟨rfl, hb8⟩
        go_wp2_with fail
        go_ret
        exact ⟨rfl, below_step HB7.out hb8⟩
end Go.Proofs.Ytpfgjagpaddcpaa.Own
