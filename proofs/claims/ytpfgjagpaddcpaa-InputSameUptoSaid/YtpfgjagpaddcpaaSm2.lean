import Derived.Test.YtpfgjagpaddcpaaSm1
import Derived.Test.YtpfgjagpaddcpaaBa6
/-! Texts that this law leans on, put together by a program of this session: Q5 G11 G12. -/
/-! The reference's Same answers as Same; a copy is the same. -/
namespace Go.Proofs.Ytpfgjagpaddcpaa.Own
open Go.RowKit Go.Proofs.YtpfgjagpaddcpaaW.PrintWords Go.Proofs.YtpfgjagpaddcpaaW.PrintLast Go.Proofs.YtpfgjagpaddcpaaW.PrintMore
open Go.Proofs.Ytpfgjagpaddcpaa.X
set_option linter.unusedVariables false
set_option linter.unusedSimpArgs false

theorem list_ext_getD {α : Type} (d : α) : ∀ (l m : List α), l.length = m.length → (∀ j, j < l.length → l.getD j d = m.getD j d) → l = m
  | [], [], _, _ => rfl
  | [], _ :: _, h, _ => by simp at h
  | _ :: _, [], h, _ => by simp at h
  | a :: l, b :: m, h, hj => by
    have h0 : a = b := by simpa using hj 0 (by simp)
    have h1 := list_ext_getD d l m (by simpa using h) (fun j hlt => by simpa using hj (j + 1) (by simpa using hlt))
    rw [h0, h1]

theorem eqPts_iff (l m : List S23) : eqPts l m = true ↔ l = m := by
  unfold eqPts
  rw [decide_eq_true_iff]
  constructor
  · rintro ⟨h1, h2⟩
    refine list_ext_getD z23 l m h1 fun j hj => ?_
    have := h2 j hj
    unfold samePt at this
    simp only [Bool.and_eq_true, beq_iff_eq] at this
    generalize l.getD j z23 = p at this
    generalize m.getD j z23 = q at this
    cases p; cases q
    simp only at this
    rw [this.1, this.2]
  · rintro rfl
    exact ⟨rfl, fun j _ => by unfold samePt; simp⟩
theorem eqRings_iff (l m : List (List S23)) : eqRings l m = true ↔ l = m := by
  unfold eqRings
  rw [decide_eq_true_iff]
  constructor
  · rintro ⟨h1, h2⟩
    exact list_ext_getD [] l m h1 fun j hj => (eqPts_iff _ _).1 (h2 j hj)
  · rintro rfl
    exact ⟨rfl, fun j _ => (eqPts_iff _ _).2 rfl⟩
theorem sameB_iff (la lb : List (List S23)) (o f r c : Int) (la' lb' : List (List S23)) (o' f' r' c' : Int) : sameB la lb o f r c la' lb' o' f' r' c' = true ↔ (o = o' ∧ f = f' ∧ r = r' ∧ c = c' ∧ la = la' ∧ lb = lb') := by
  unfold sameB
  simp only [Bool.and_eq_true, beq_iff_eq, eqRings_iff, and_assoc]
theorem sameB_refl (la lb : List (List S23)) (o f r c : Int) : sameB la lb o f r c la lb o f r c = true := (sameB_iff _ _ _ _ _ _ _ _ _ _ _ _).2 ⟨rfl, rfl, rfl, rfl, rfl, rfl⟩

theorem same1_ev (x y : List (List S23)) (i : Nat) (hi : i < x.length) (hxy : x.length = y.length) (hl : x.length ≤ 1000000000000) (r s : List S23) (hr : x.getD i [] = r) (hs : y.getD i [] = s) (hrs : r.length = s.length) (hrl : r.length ≤ 1000000000000) (P : Prop)
    (hv : ∀ b : Bool, (b = true ↔ P) → Ev (fun k => cobwebref11_Same.l0 k x y ((i + 1 : Nat) : Int)) b) :
    ∀ (m j : Nat), r.length - j = m → j ≤ r.length → ∀ b : Bool, (b = true ↔ (r.drop j = s.drop j ∧ P)) → Ev (fun k => cobwebref11_Same.l1 k x y i j) b := by
  have hr' : rd_L2 x (i : Int) = r := by rw [← hr]; simp [rd_L2]
  have hs' : rd_L2 y (i : Int) = s := by rw [← hs]; simp [rd_L2]
  have hi' : (i : Int) < (x.length : Int) := by omega
  have hi2 : (i : Int) < (y.length : Int) := by omega
  have hi0 : (0 : Int) ≤ (i : Int) := by omega
  intro m
  induction m with
  | zero =>
    intro j hm hj b hb
    obtain rfl : j = r.length := by omega
    rw [List.drop_length, hrs, List.drop_length] at hb
    refine Ev.step (hv b (by rw [hb]; simp)) fun k => ?_
    simp only [cobwebref11_Same.l1, if_pos hi0, if_pos hi', hr', if_neg (show ¬ (r.length : Int) < (r.length : Int) by omega)]
    rw [wrap_id (by omega)]
    rfl
  | succ m ih =>
    intro j hm hj b hb
    have hlt : j < r.length := by omega
    have hlt' : (j : Int) < (r.length : Int) := by omega
    have hls : (j : Int) < (s.length : Int) := by omega
    rw [getD_drop r z23 j hlt, getD_drop s z23 j (by omega), List.cons.injEq] at hb
    have hp : rd_T23 r (j : Int) = r.getD j z23 := by simp [rd_T23]
    have hq : rd_T23 s (j : Int) = s.getD j z23 := by simp [rd_T23]
    generalize r.getD j z23 = p at hp hb
    generalize s.getD j z23 = q at hq hb
    have hstep : ∀ k, cobwebref11_Same.l1 (k + 1) x y i j = if (!(p.f0 == q.f0) || !(p.f1 == q.f1)) = true then some false else cobwebref11_Same.l1 k x y i (wrap64 ((j : Int) + 1)) := by
      intro k
      simp only [cobwebref11_Same.l1, if_pos hi0, if_pos hi', if_pos hi2, hr', hs', if_pos hlt', if_pos hls, if_pos (show (0 : Int) ≤ (j : Int) by omega), hp, hq]
    by_cases hpq : p = q
    · subst hpq
      refine Ev.step (ih (j + 1) (by omega) (by omega) b (by rw [hb]; simp)) fun k => ?_
      rw [hstep]
      simp only [beq_self_eq_true, Bool.not_true, Bool.or_false, Bool.false_eq_true, if_false]
      rw [wrap_id (by omega)]
      rfl
    · have hbf : b = false := by
        cases b with
        | false => rfl
        | true => exact absurd (hb.1 rfl).1.1 hpq
      subst hbf
      have hne : (!(p.f0 == q.f0) || !(p.f1 == q.f1)) = true := by
        cases p with
        | mk p0 p1 =>
          cases q with
          | mk q0 q1 =>
            simp only [Bool.or_eq_true, Bool.not_eq_true', beq_eq_false_iff_ne]
            by_cases h0 : p0 = q0
            · refine Or.inr fun h1 => hpq ?_
              rw [h0, h1]
            · exact Or.inl h0
      refine Ev.step (Ev.const false) fun k => ?_
      rw [hstep, hne]
      rfl

theorem same0_ev (x y : List (List S23)) (hxy : x.length = y.length) (hl : x.length ≤ 1000000000000) (hls : ∀ r ∈ x, r.length ≤ 1000000000000) : ∀ (m i : Nat), x.length - i = m → i ≤ x.length → ∀ b : Bool, (b = true ↔ x.drop i = y.drop i) → Ev (fun k => cobwebref11_Same.l0 k x y i) b := by
  intro m
  induction m with
  | zero =>
    intro i hm hi b hb
    obtain rfl : i = x.length := by omega
    rw [List.drop_length, hxy, List.drop_length] at hb
    obtain rfl : b = true := hb.2 rfl
    refine Ev.step (Ev.const true) fun k => ?_
    simp only [cobwebref11_Same.l0, if_neg (show ¬ (x.length : Int) < (x.length : Int) by omega)]
  | succ m ih =>
    intro i hm hi b hb
    have hlt : i < x.length := by omega
    have hmem : x.getD i [] ∈ x := by
      rw [List.getD_eq_getElem?_getD, List.getElem?_eq_getElem hlt]
      exact List.getElem_mem _
    have hrl := hls _ hmem
    rw [getD_drop x [] i hlt, getD_drop y [] i (by omega), List.cons.injEq] at hb
    have hr' : rd_L2 x (i : Int) = x.getD i [] := by simp [rd_L2]
    have hs' : rd_L2 y (i : Int) = y.getD i [] := by simp [rd_L2]
    obtain ⟨r, hr⟩ : ∃ r, x.getD i [] = r := ⟨_, rfl⟩
    obtain ⟨s, hs⟩ : ∃ s, y.getD i [] = s := ⟨_, rfl⟩
    rw [hr] at hr' hrl hb
    rw [hs] at hs' hb
    have hi' : (i : Int) < (x.length : Int) := by omega
    have hi2 : (i : Int) < (y.length : Int) := by omega
    have hi0 : (0 : Int) ≤ (i : Int) := by omega
    by_cases hn : r.length = s.length
    · have h1 := same1_ev x y i hlt hxy hl r s hr hs hn hrl (x.drop (i + 1) = y.drop (i + 1)) (fun b' hb' => ih (i + 1) (by omega) (by omega) b' hb') r.length 0 (by omega) (by omega) b (by rw [hb, List.drop_zero, List.drop_zero])
      refine Ev.step h1 fun k => ?_
      simp only [cobwebref11_Same.l0, if_pos hi', if_pos hi0, if_pos hi2, hr', hs', if_pos (show (r.length : Int) = (s.length : Int) by omega)]
      rfl
    · have hbf : b = false := by
        cases b with
        | false => rfl
        | true => exact absurd (by rw [(hb.1 rfl).1]) hn
      subst hbf
      refine Ev.step (Ev.const false) fun k => ?_
      simp only [cobwebref11_Same.l0, if_pos hi', if_pos hi0, if_pos hi2, hr', hs', if_neg (show ¬ (r.length : Int) = (s.length : Int) by omega)]

theorem same_f (la lb : List (List S23)) (o f r c : Int) (la' lb' : List (List S23)) (o' f' r' c' : Int) (h1 : la.length + sumL la + (lb.length + sumL lb) ≤ 1048576) (h2 : la'.length + sumL la' + (lb'.length + sumL lb') ≤ 1048576) :
    Ev (fun k => cobwebref11_Same.f k la lb o f r c la' lb' o' f' r' c') (sameB la lb o f r c la' lb' o' f' r' c') := by
  have hb := sameB_iff la lb o f r c la' lb' o' f' r' c'
  generalize sameB la lb o f r c la' lb' o' f' r' c' = b at hb
  have no : ¬ (o = o' ∧ f = f' ∧ r = r' ∧ c = c' ∧ la = la' ∧ lb = lb') → b = false := fun h => by
    cases b with
    | false => rfl
    | true => exact absurd (hb.1 rfl) h
  have jt : b = false → Ev (fun k => cobwebref11_Same.j0 k true la lb o f r c la' lb' o' f' r' c') b := fun h => by
    subst h
    exact Ev.step (Ev.const false) fun k => by simp only [cobwebref11_Same.j0, if_true]
  unfold cobwebref11_Same.f
  by_cases e1 : o = o'
  · simp only [if_pos e1]
    by_cases e2 : f = f'
    · simp only [if_pos e2]
      by_cases e3 : r = r'
      · simp only [if_pos e3]
        by_cases e4 : c = c'
        · simp only [if_pos e4]
          by_cases e5 : (la.length : Int) = (la'.length : Int)
          · simp only [if_pos e5]
            by_cases e6 : (lb.length : Int) = (lb'.length : Int)
            · have hn : ((lb.length : Int) != (lb'.length : Int)) = false := by simp [e6]
              rw [hn]
              have l1 : la.length = la'.length := by omega
              have l2 : lb.length = lb'.length := by omega
              have hsum : ∀ r ∈ la ++ lb, r.length ≤ 1000000000000 := by
                intro r hr
                rcases List.mem_append.1 hr with h | h
                · have := sumL_mem la r h; omega
                · have := sumL_mem lb r h; omega
              have h0 := same0_ev (la ++ lb) (la' ++ lb') (by rw [List.length_append, List.length_append]; omega) (by rw [List.length_append]; omega) hsum (la ++ lb).length 0 (by omega) (by omega) b (by
                rw [hb, List.drop_zero, List.drop_zero]
                constructor
                · rintro ⟨_, _, _, _, g1, g2⟩; rw [g1, g2]
                · intro g
                  obtain ⟨g1, g2⟩ := List.append_inj g l1
                  exact ⟨e1, e2, e3, e4, g1, g2⟩)
              refine Ev.step h0 fun k => ?_
              simp only [cobwebref11_Same.j0, Bool.false_eq_true, if_false, Option.bind_some, List.nil_append, List.length_nil, Nat.zero_add]
              rw [if_pos (by omega), if_pos (by omega), if_pos (by omega), if_pos (by omega)]
              rfl
            · have hn : ((lb.length : Int) != (lb'.length : Int)) = true := by simpa using e6
              rw [hn]
              exact jt (no fun h => e6 (by rw [h.2.2.2.2.2]))
          · simp only [if_neg e5]
            exact jt (no fun h => e5 (by rw [h.2.2.2.2.1]))
        · simp only [if_neg e4]
          exact jt (no fun h => e4 h.2.2.2.1)
      · simp only [if_neg e3]
        exact jt (no fun h => e3 h.2.2.1)
    · simp only [if_neg e2]
      exact jt (no fun h => e2 h.2.1)
  · simp only [if_neg e1]
    exact jt (no fun h => e1 h.1)

theorem heap23 : Kd.Heap k23 := Kd.heap_iso _ (Kd.heap_pair (Kd.heap_int .i64) (Kd.heap_int .i64))
theorem V_of_C {w : World} {A : Option Addr} {c : Nat} {l : List (List S23)} (h : Kd.C (Kd.slice 23 k23) w A l.length l) (hc : l.length ≤ c) : Kd.V (Kd.slice 23 k23) 47 w w.heap.size (fun k_ => k_ < w.heap.size) (.slice A l.length c) l :=
  Kd.V_mk hc (Kd.C_F (Kd.heap_slice 23 heap23) h)

theorem rsame_any (A B : Option Addr) (ca cb : Nat) (la lb : List (List S23)) (o f r c : Int) (A' B' : Option Addr) (ca' cb' : Nat) (la' lb' : List (List S23)) (o' f' r' c' : Int) (w : World)
    (hA : Kd.C (Kd.slice 23 k23) w A la.length la) (hca : la.length ≤ ca) (hB : Kd.C (Kd.slice 23 k23) w B lb.length lb) (hcb : lb.length ≤ cb) (hA' : Kd.C (Kd.slice 23 k23) w A' la'.length la') (hca' : la'.length ≤ ca') (hB' : Kd.C (Kd.slice 23 k23) w B' lb'.length lb') (hcb' : lb'.length ≤ cb')
    (h1 : la.length + sumL la + (lb.length + sumL lb) ≤ 1048576) (h2 : la'.length + sumL la' + (lb'.length + sumL lb') ≤ 1048576) :
    Calls Try.prog 51 #[.agg #[.slice A la.length ca, .slice B lb.length cb, .int .i64 o, .int .i64 f, .int .i64 r, .int .i64 c], .agg #[.slice A' la'.length ca', .slice B' lb'.length cb', .int .i64 o', .int .i64 f', .int .i64 r', .int .i64 c']] w fun e w' => e = .returned (.bool (sameB la lb o f r c la' lb' o' f' r' c')) ∧ Below w.heap.size w w' := by
  obtain ⟨k, hk⟩ := (same_f la lb o f r c la' lb' o' f' r' c' h1 h2).get
  exact cobwebref11_Same.calls k _ A ca la _ B cb lb o f r c _ A' ca' la' _ B' cb' lb' o' f' r' c' _ w (V_of_C hA hca) (V_of_C hB hcb) (V_of_C hA' hca') (V_of_C hB' hcb') hk
end Go.Proofs.Ytpfgjagpaddcpaa.Own

/-! Rings of one's own, whose points' numbers may be written. -/
namespace Go.Proofs.Ytpfgjagpaddcpaa.Own
open Go.RowKit Go.Proofs.YtpfgjagpaddcpaaW.PrintWords Go.Proofs.YtpfgjagpaddcpaaW.PrintLast Go.Proofs.YtpfgjagpaddcpaaW.PrintMore
open Go.Proofs.Ytpfgjagpaddcpaa.X
set_option linter.unusedVariables false
set_option linter.unusedSimpArgs false

/-- A ring whose row lies in a block from lo on, below hi: its cells are numbers. -/
def IntRing (lo hi : Nat) (W : World) (h : Hdr) : Prop :=
  h.n = 0 ∨ ∃ g cur, h.A = some ⟨g, 0, none⟩ ∧ lo ≤ g ∧ g < hi ∧ W.heap[g]? = some (.cells cur 23 (0, 0)) ∧ h.n ≤ h.c ∧ h.n ≤ 9223372036854775807 ∧ ∀ j, j < h.n * 2 → ∃ x : Int, cur[j]? = some (.int .i64 x)

theorem IntRing.keep {lo hi : Nat} {W W' : World} {h : Hdr} (hr : IntRing lo hi W h) (hk : ∀ g cur, lo ≤ g → g < hi → W.heap[g]? = some (.cells cur 23 (0, 0)) → W'.heap[g]? = W.heap[g]?) : IntRing lo hi W' h := by
  rcases hr with h0 | ⟨g, cur, h1, h2, h3, h4, h5⟩
  · exact Or.inl h0
  · exact Or.inr ⟨g, cur, h1, h2, h3, (hk g cur h2 h3 h4).trans h4, h5⟩
theorem IntRing.set {lo hi : Nat} {W : World} {h : Hdr} (hr : IntRing lo hi W h) (g j : Nat) (y : Int) : IntRing lo hi (W.setCell ⟨g, j, none⟩ (.int .i64 y)) h := by
  rcases hr with h0 | ⟨g', cur, h1, h2, h3, h4, h5, h6, h7⟩
  · exact Or.inl h0
  · by_cases hg : g' = g
    · subst hg
      refine Or.inr ⟨g', cur.setIfInBounds j (.int .i64 y), h1, h2, h3, blk_set h4 j _, h5, h6, fun i hi => ?_⟩
      obtain ⟨x, hx⟩ := h7 i hi
      have hlt : i < cur.size := (Array.getElem?_eq_some_iff.1 hx).1
      rw [Array.getElem?_setIfInBounds]
      split
      · rename_i e
        subst e
        exact ⟨y, by simp [hlt]⟩
      · exact ⟨x, hx⟩
    · exact Or.inr ⟨g', cur, h1, h2, h3, (Go.Deep.blk_setCell_other _ _ _ _ hg).trans h4, h5, h6, h7⟩

theorem intRing_of_R {W : World} {base : Nat} {ok : Nat → Prop} {v : Value} {p : List S23} (h : Kd.R k23 23 W base ok v p) : ∃ hd : Hdr, v = encH hd ∧ IntRing base W.heap.size W hd := by
  obtain ⟨A, c, hv, hc, hC⟩ := Kd.R_reads h
  refine ⟨⟨A, p.length, c⟩, hv, ?_⟩
  obtain ⟨_, inner, ho, _⟩ := h
  rcases ho.2 with ⟨e, h0⟩ | ⟨g, cap, cur, e, hb, hg, hnc, hcm, hcs, ht⟩
  · exact Or.inl h0
  · rw [e] at hv
    injection hv with e1 e2 e3
    subst e1
    refine Or.inr ⟨g, cur, rfl, hb, (Array.getElem?_eq_some_iff.1 hg).1, hg, hc, hC.2.1, fun j hj => ?_⟩
    have hj2 : j / 2 < p.length := by
      have : j < p.length * 2 := hj
      omega
    obtain ⟨ad, e4, k0, k1⟩ := at_T23 hC ((j / 2 : Nat) : Int) (by omega) (by omega)
    cases e4
    simp only [Int.toNat_natCast] at k0 k1
    rw [addr_add] at k0 k1
    rw [blk_cell hg] at k0 k1
    by_cases hm : j % 2 = 0
    · exact ⟨_, by rw [show j = j / 2 * 2 by omega]; exact k0⟩
    · exact ⟨_, by rw [show j = j / 2 * 2 + 1 by omega]; exact k1⟩

/-- Rings of one's own: their headers, in a row; each ring's row. -/
theorem own_hdrs {W : World} {base : Nat} {ok : Nat → Prop} {v : Value} {ls : List (List S23)} (h : Kd.R (Kd.slice 23 k23) 47 W base ok v ls) :
    ∃ hs : List Hdr, hs.length = ls.length ∧ W.ownsRow base 47 1 v hs.length (encs encH hs) ∧ ∀ hd ∈ hs, IntRing base W.heap.size W hd := by
  obtain ⟨h0, inner, ho, hr⟩ := h
  have hx : ∀ i, i < ls.length → ∃ hd : Hdr, inner[i]? = some (encH hd) ∧ IntRing base W.heap.size W hd := by
    intro i hi
    obtain ⟨v', e, hR⟩ := hr.2 i _ (List.getElem?_eq_getElem hi)
    obtain ⟨hd, e2, hI⟩ := intRing_of_R hR
    refine ⟨hd, ?_, hI⟩
    have hsz : i * (Kd.slice 23 k23).sz = i := by show i * 1 = i; omega
    rw [hsz] at e
    have h1 : ((inner.drop i).take (Kd.slice 23 k23).sz)[0]? = some v' := by rw [e]; rfl
    have hs1 : (Kd.slice 23 k23).sz = 1 := rfl
    rw [hs1, List.getElem?_take] at h1
    simp only [Nat.lt_add_one, if_true, List.getElem?_drop, Nat.add_zero] at h1
    rw [h1, e2]
  obtain ⟨f, hf⟩ := Go.Deep.choose_lt (α := Hdr) (n := ls.length) (p := fun i hd => inner[i]? = some (encH hd) ∧ IntRing base W.heap.size W hd) hx
  have hin : encs encH ((List.range ls.length).map f) = inner := by
    have hl : inner.length = ls.length := by have := hr.1; rw [this]; show ls.length * 1 = _; omega
    refine List.ext_getElem? fun i => ?_
    by_cases hi : i < ls.length
    · rw [(hf i hi).1]
      simp [encs, hi]
    · rw [List.getElem?_eq_none (by simp [encs]; omega), List.getElem?_eq_none (by omega)]
  refine ⟨(List.range ls.length).map f, by simp, ?_, fun hd hm => ?_⟩
  · rw [hin, List.length_map, List.length_range]
    exact ho
  · obtain ⟨i, hi, rfl⟩ := List.mem_map.1 hm
    exact (hf i (List.mem_range.1 hi)).2

theorem own_readsOf {W : World} {base n : Nat} {v : Value} {hs : List Hdr} (h : W.ownsRow base 47 1 v n (encs encH hs)) (hn : hs.length = n) : ∃ A c, v = .slice A n c ∧ n ≤ c ∧ ReadsOf encH hdr0 W A n hs := by
  rcases h.2 with ⟨e, h0⟩ | ⟨g, cap, cur, e, hb, hg, hnc, hcm, hcs, ht⟩
  · subst h0
    exact ⟨none, 0, e, Nat.le_refl _, hn, by decide, fun h => absurd h (Nat.lt_irrefl _)⟩
  · have hm : n ≤ 9223372036854775807 := by
      have : cap ≤ 9223372036854775807 := by simpa [maxLen] using hcm
      omega
    refine ⟨_, cap, e, hnc, hn, hm, fun _ => ⟨_, rfl, fun j hj => ?_⟩⟩
    exact World.ownsRow.cells h (by rw [e]; rfl) j _ (encs_get hs j (by omega))

/-- What InputSame's loops keep: w's blocks below b; the copy's, from d0 on; a's box; the headers' row; the rings. -/
structure JS (w W5 : World) (b lo hi d0 base : Nat) (bx : Array Value) (v : Value) (hs : List Hdr) (W : World) : Prop where
  below : Below w.heap.size w W
  dr : ∀ k, d0 ≤ k → k < W5.heap.size → W.heap[k]? = W5.heap[k]?
  box : W.heap[b]? = some (.cells bx 37 (0, 0))
  row : W.ownsRow base 47 1 v hs.length (encs encH hs)
  ints : ∀ h ∈ hs, IntRing lo hi W h

theorem JS.set {w W5 : World} {b lo hi d0 base : Nat} {bx : Array Value} {v : Value} {hs : List Hdr} {W : World} (h : JS w W5 b lo hi d0 base bx v hs W) (hlo : w.heap.size ≤ lo) (hhi : hi ≤ d0) {g : Nat} {cur : Array Value} (h1 : lo ≤ g) (h2 : g < hi) (hg : W.heap[g]? = some (.cells cur 23 (0, 0))) (j : Nat) (y : Int) :
    JS w W5 b lo hi d0 base bx v hs (W.setCell ⟨g, j, none⟩ (.int .i64 y)) := by
  refine ⟨below_set h.below (by omega), fun k h3 h4 => (Go.Deep.blk_setCell_other _ _ _ _ (by show k ≠ g; omega)).trans (h.dr k h3 h4), (Go.Deep.blk_setCell_other _ _ _ _ ?_).trans h.box, own_setCell h.row (own_ne h.row hg (by decide)) _, fun hd hm => (h.ints hd hm).set g j y⟩
  rintro rfl
  have := h.box
  rw [hg] at this
  cases this
end Go.Proofs.Ytpfgjagpaddcpaa.Own

/-! InputSame, walked. -/
namespace Go.Proofs.Ytpfgjagpaddcpaa.Own
open Go.RowKit Go.Proofs.YtpfgjagpaddcpaaW.PrintWords Go.Proofs.YtpfgjagpaddcpaaW.PrintLast Go.Proofs.YtpfgjagpaddcpaaW.PrintMore
open Go.Proofs.Ytpfgjagpaddcpaa.X
set_option linter.unusedVariables false
set_option linter.unusedSimpArgs false

theorem clone2_any (A B : Option Addr) (ca cb : Nat) (la lb : List (List S23)) (o f r c : Int) (w : World) (hA : Kd.C (Kd.slice 23 k23) w A la.length la) (hB : Kd.C (Kd.slice 23 k23) w B lb.length lb)
    (hl : la.length + sumL la + (lb.length + sumL lb) ≤ 1048576) :
    Calls Try.prog 49 #[.agg #[.slice A la.length ca, .slice B lb.length cb, .int .i64 o, .int .i64 f, .int .i64 r, .int .i64 c]] w fun e w' =>
      (∃ A1 c1 A2 c2, e = .returned (.agg #[.slice A1 la.length c1, .slice A2 lb.length c2, .int .i64 o, .int .i64 f, .int .i64 r, .int .i64 c]) ∧ Aside0 (la.length ≤ c1 ∧ lb.length ≤ c2 ∧ Kd.R (Kd.slice 23 k23) 47 w' w.heap.size (fun _ => True) (.slice A1 la.length c1) la ∧ Kd.R (Kd.slice 23 k23) 47 w' w.heap.size (fun _ => True) (.slice A2 lb.length c2) lb)) ∧ Below w.heap.size w w' := by
  refine (clone_any A B ca cb la lb o f r c w hA hB (by omega) (by omega) (fun r hr => by have := sumL_mem la r hr; omega) (fun r hr => by have := sumL_mem lb r hr; omega)).mono ?_
  rintro e w' ⟨⟨v1, v2, m, rfl, hm, h1, h2⟩, hb⟩
  obtain ⟨A1, c1, rfl, k1, _⟩ := Kd.R_reads h1
  obtain ⟨A2, c2, rfl, k2, _⟩ := Kd.R_reads h2
  exact ⟨⟨A1, c1, A2, c2, rfl, ⟨k1, k2, Kd.R_mono h1 (fun _ _ => trivial), Kd.R_lower h2 hm⟩⟩, hb⟩

theorem R_C {w : World} {base : Nat} {ok : Nat → Prop} {A : Option Addr} {n c : Nat} {ls : List (List S23)} (hn : ls.length = n) (h : Kd.R (Kd.slice 23 k23) 47 w base ok (.slice A n c) ls) : Kd.C (Kd.slice 23 k23) w A ls.length ls := by
  obtain ⟨A', c', e, _, hC⟩ := Kd.R_reads h
  injection e with e1 e2 e3
  rw [e1]
  exact hC

set_option maxRecDepth 100000 in
set_option maxHeartbeats 16000000 in
theorem same_in (w : World) (A : Option Addr) (ca : Nat) (la : List (List S23)) (hca : la.length ≤ ca) (hA : Kd.C (Kd.slice 23 k23) w A la.length la) (B : Option Addr) (cb : Nat) (lb : List (List S23)) (hcb : lb.length ≤ cb) (hB : Kd.C (Kd.slice 23 k23) w B lb.length lb)
    (o f r c : Int) (A' : Option Addr) (ca' : Nat) (la' : List (List S23)) (hca' : la'.length ≤ ca') (hA' : Kd.C (Kd.slice 23 k23) w A' la'.length la') (B' : Option Addr) (cb' : Nat) (lb' : List (List S23)) (hcb' : lb'.length ≤ cb') (hB' : Kd.C (Kd.slice 23 k23) w B' lb'.length lb')
    (o' f' r' c' : Int) (hl : la.length + sumL la + (lb.length + sumL lb) ≤ 1048576) (hl' : la'.length + sumL la' + (lb'.length + sumL lb') ≤ 1048576) :
    Calls Try.prog 15 #[.agg #[.slice A la.length ca, .slice B lb.length cb, .int .i64 o, .int .i64 f, .int .i64 r, .int .i64 c], .agg #[.slice A' la'.length ca', .slice B' lb'.length cb', .int .i64 o', .int .i64 f', .int .i64 r', .int .i64 c']] w fun e w' => e = .returned (.bool true) ∧ Below w.heap.size w w' := by
  have hu37 := Try.underlying37
  have hu41 := Try.underlying41
  have hu35 := Try.underlying35
  have hu23 := Try.underlying23
  have HA := Aside0.mk hA
  have HB := Aside0.mk hB
  have HA' := Aside0.mk hA'
  have HB' := Aside0.mk hB'
  have HCA := Aside0.mk (And.intro hca hcb)
  have HCB := Aside0.mk (And.intro hca' hcb')
  have HL := Aside0.mk (And.intro hl hl')
  obtain ⟨M, hM⟩ : ∃ M : Int, ((la.length + lb.length + sumL la + sumL lb : Nat) : Int) = M := ⟨_, rfl⟩
  obtain ⟨M', hM'⟩ : ∃ M' : Int, ((la'.length + lb'.length + sumL la' + sumL lb' : Nat) : Int) = M' := ⟨_, rfl⟩
  have HM := Aside0.mk (show ∀ w', Below w.heap.size w w' → Calls Try.prog 36 #[.agg #[.slice A la.length ca, .slice B lb.length cb, .int .i64 o, .int .i64 f, .int .i64 r, .int .i64 c]] w' fun e w'' => e = .returned (.int .i64 M) ∧ Below w'.heap.size w' w'' from
    fun w' hb => hM ▸ many_any A B ca cb la lb o f r c w' (Kd.C_below hA hb) hca (Kd.C_below hB hb) hcb (by omega))
  have HM' := Aside0.mk (show ∀ w', Below w.heap.size w w' → Calls Try.prog 36 #[.agg #[.slice A' la'.length ca', .slice B' lb'.length cb', .int .i64 o', .int .i64 f', .int .i64 r', .int .i64 c']] w' fun e w'' => e = .returned (.int .i64 M') ∧ Below w'.heap.size w' w'' from
    fun w' hb => hM' ▸ many_any A' B' ca' cb' la' lb' o' f' r' c' w' (Kd.C_below hA' hb) hca' (Kd.C_below hB' hb) hcb' (by omega))
  clear hA hB hA' hB' hca hcb hca' hcb' hl hl' hM hM'
  go_enter Try.func15, Try.ntmps15
  have hk2 := blk_alloc (blk_new w (.cells #[.slice A la.length ca, .slice B lb.length cb, .int .i64 o, .int .i64 f, .int .i64 r, .int .i64 c] 37)) (.cells #[.slice A' la'.length ca', .slice B' lb'.length cb', .int .i64 o', .int .i64 f', .int .i64 r', .int .i64 c'] 37)
  have hk3 := blk_new (w.alloc (.cells #[.slice A la.length ca, .slice B lb.length cb, .int .i64 o, .int .i64 f, .int .i64 r, .int .i64 c] 37)) (.cells #[.slice A' la'.length ca', .slice B' lb'.length cb', .int .i64 o', .int .i64 f', .int .i64 r', .int .i64 c'] 37)
  rw [World.size_alloc] at hk3
  have HW0 := Aside0.mk (below_alloc (below_alloc (Below.refl w.heap.size w) (.cells #[.slice A la.length ca, .slice B lb.length cb, .int .i64 o, .int .i64 f, .int .i64 r, .int .i64 c] 37)) (.cells #[.slice A' la'.length ca', .slice B' lb'.length cb', .int .i64 o', .int .i64 f', .int .i64 r', .int .i64 c'] 37))
  have HZ0 := Aside0.mk (show w.heap.size + 2 ≤ ((w.alloc (.cells #[.slice A la.length ca, .slice B lb.length cb, .int .i64 o, .int .i64 f, .int .i64 r, .int .i64 c] 37)).alloc (.cells #[.slice A' la'.length ca', .slice B' lb'.length cb', .int .i64 o', .int .i64 f', .int .i64 r', .int .i64 c'] 37)).heap.size by simp)
  have K2 := Aside0.mk hk2
  have K3 := Aside0.mk hk3
  clear hk2 hk3
  by_cases h1 : 600 < M
  · have d1 : decide (600 < M) = true := decide_eq_true h1
    go_wp2_with (go_at_call 36; (with_reducible refine (HM.out _ HW0.out).mono ?_); rintro e w1 ⟨rfl, hb⟩)
    refine (alive11_any _).mono ?_
    rintro e w2 ⟨rfl, hb2⟩
    go_wp2_with fail
    go_ret
    exact ⟨rfl, below_step (below_step HW0.out hb) hb2⟩
  · have d1 : decide (600 < M) = false := decide_eq_false h1
    by_cases h2 : 600 < M'
    · have d2 : decide (600 < M') = true := decide_eq_true h2
      go_wp2_with (go_at_call 36; (with_reducible refine (HM.out _ HW0.out).mono ?_); rintro e w1 ⟨rfl, hb⟩; have HB1 := Aside0.mk (below_step HW0.out hb); have k3 := blk_below K3.out hb; have y0 := cell0 0 k3 rfl; have y1 := cell0 1 k3 rfl; have y2 := cell0 2 k3 rfl; have y3 := cell0 3 k3 rfl; have y4 := cell0 4 k3 rfl; have y5 := cell0 5 k3 rfl)
      refine (HM'.out _ HB1.out).mono ?_
      rintro e w2 ⟨rfl, hb2⟩
      replace HB1 := Aside0.mk (below_step HB1.out hb2)
      clear y0 y1 y2 y3 y4 y5 hb2
      go_wp2_with fail
      refine (alive11_any _).mono ?_
      rintro e w3 ⟨rfl, hb3⟩
      go_wp2_with fail
      go_ret
      exact ⟨rfl, below_step HB1.out hb3⟩
    · have d2 : decide (600 < M') = false := decide_eq_false h2
      go_wp2_with (go_at_call 36; (with_reducible refine (HM.out _ HW0.out).mono ?_); rintro e w1 ⟨rfl, hb⟩; have HB1 := Aside0.mk (below_step HW0.out hb); have HZ1 := Aside0.mk (Nat.le_trans HZ0.out hb.size); have k2 := blk_below K2.out hb; have k3 := blk_below K3.out hb; have y0 := cell0 0 k3 rfl; have y1 := cell0 1 k3 rfl; have y2 := cell0 2 k3 rfl; have y3 := cell0 3 k3 rfl; have y4 := cell0 4 k3 rfl; have y5 := cell0 5 k3 rfl)
      refine (HM'.out _ HB1.out).mono ?_
      rintro e w2 ⟨rfl, hb2⟩
      replace HB1 := Aside0.mk (below_step HB1.out hb2)
      replace HZ1 := Aside0.mk (Nat.le_trans HZ1.out hb2.size)
      replace k2 := blk_below k2 hb2
      replace k3 := blk_below k3 hb2
      clear y0 y1 y2 y3 y4 y5 hb2 hb K2 K3 HZ0 HW0 HM HM' h1 h2
      have K2 := Aside0.mk k2
      have K3 := Aside0.mk k3
      have x0 := cell0 0 k2 rfl; have x1 := cell0 1 k2 rfl; have x2 := cell0 2 k2 rfl; have x3 := cell0 3 k2 rfl; have x4 := cell0 4 k2 rfl; have x5 := cell0 5 k2 rfl
      clear k2 k3
      go_wp2_with fail
      refine (clone2_any A B ca cb la lb o f r c _ (Kd.C_below HA.out HB1.out) (Kd.C_below HB.out HB1.out) HL.out.1).mono ?_
      rintro e w3 ⟨⟨A1, c1, A2, c2, rfl, HC1⟩, hb3⟩
      clear x0 x1 x2 x3 x4 x5 d1 d2
      have HQ := Aside0.mk hb3
      have HB3 := Aside0.mk (below_step HB1.out hb3)
      have k2 := blk_below K2.out hb3
      have k3 := blk_below K3.out hb3
      clear hb3 K2 K3
      have K2 := Aside0.mk k2
      have K3 := Aside0.mk k3
      clear k2 k3
      go_upto_region 4 with (fail)
      have kk := blk_new w3 (.cells #[.slice A1 la.length c1, .slice A2 lb.length c2, .int .i64 o, .int .i64 f, .int .i64 r, .int .i64 c] 41)
      have hb4 := below_alloc (Below.refl w3.heap.size w3) (.cells #[.slice A1 la.length c1, .slice A2 lb.length c2, .int .i64 o, .int .i64 f, .int .i64 r, .int .i64 c] 41)
      have HZ5 := Aside0.mk (show w2.heap.size ≤ w3.heap.size ∧ (w3.alloc (.cells #[.slice A1 la.length c1, .slice A2 lb.length c2, .int .i64 o, .int .i64 f, .int .i64 r, .int .i64 c] 41)).heap.size = w3.heap.size + 1 from ⟨HQ.out.size, by simp⟩)
      have HR1 := Aside0.mk (Kd.R_below HC1.out.2.2.1 hb4)
      have HR2 := Aside0.mk (Kd.R_below HC1.out.2.2.2 hb4)
      have HLC := Aside0.mk (And.intro HC1.out.1 HC1.out.2.1)
      have HQ4 := Aside0.mk (below_step HQ.out hb4)
      have HB4 := Aside0.mk (below_step HB3.out hb4)
      have k2 := blk_below K2.out hb4
      have k3 := blk_below K3.out hb4
      clear hb4 K2 K3 HC1 HQ HB3
      obtain ⟨g5, hg5⟩ : ∃ g5, w3.heap.size = g5 := ⟨_, rfl⟩
      rw [hg5] at kk HZ5 ⊢
      generalize w3.alloc (.cells #[.slice A1 la.length c1, .slice A2 lb.length c2, .int .i64 o, .int .i64 f, .int .i64 r, .int .i64 c] 41) = W2 at kk HR1 HR2 HQ4 HB4 k2 k3 HZ5 ⊢
      clear hg5
      have K2 := Aside0.mk k2
      have K5 := Aside0.mk kk
      obtain ⟨s, hs⟩ : ∃ s, sameB la lb o f r c la' lb' o' f' r' c' = s := ⟨_, rfl⟩
      have HS1 := Aside0.mk (show ∀ w', Below W2.heap.size W2 w' → Calls Try.prog 50 #[.agg #[.slice A la.length ca, .slice B lb.length cb, .int .i64 o, .int .i64 f, .int .i64 r, .int .i64 c], .agg #[.slice A' la'.length ca', .slice B' lb'.length cb', .int .i64 o', .int .i64 f', .int .i64 r', .int .i64 c']] w' fun e w'' => e = .returned (.bool s) ∧ Below w'.heap.size w' w'' from
        fun w' hb => hs ▸ same_any A B ca cb la lb o f r c A' B' ca' cb' la' lb' o' f' r' c' w' (Kd.C_below HA.out (below_step HB4.out hb)) (Kd.C_below HB.out (below_step HB4.out hb)) (Kd.C_below HA'.out (below_step HB4.out hb)) (Kd.C_below HB'.out (below_step HB4.out hb)) (by have := HL.out.1; omega) (by have := HL.out.1; omega) (fun r hr => by have := HL.out.1; have := sumL_mem la r hr; omega) (fun r hr => by have := HL.out.1; have := sumL_mem lb r hr; omega))
      have HS2 := Aside0.mk (show ∀ w', Below W2.heap.size W2 w' → Calls Try.prog 51 #[.agg #[.slice A la.length ca, .slice B lb.length cb, .int .i64 o, .int .i64 f, .int .i64 r, .int .i64 c], .agg #[.slice A' la'.length ca', .slice B' lb'.length cb', .int .i64 o', .int .i64 f', .int .i64 r', .int .i64 c']] w' fun e w'' => e = .returned (.bool s) ∧ Below w'.heap.size w' w'' from
        fun w' hb => hs ▸ rsame_any A B ca cb la lb o f r c A' B' ca' cb' la' lb' o' f' r' c' w' (Kd.C_below HA.out (below_step HB4.out hb)) HCA.out.1 (Kd.C_below HB.out (below_step HB4.out hb)) HCA.out.2 (Kd.C_below HA'.out (below_step HB4.out hb)) HCB.out.1 (Kd.C_below HB'.out (below_step HB4.out hb)) HCB.out.2 HL.out.1 HL.out.2)
      have HS3 := Aside0.mk (show ∀ w', Below W2.heap.size W2 w' → Calls Try.prog 51 #[.agg #[.slice A1 la.length c1, .slice A2 lb.length c2, .int .i64 o, .int .i64 f, .int .i64 r, .int .i64 c], .agg #[.slice A la.length ca, .slice B lb.length cb, .int .i64 o, .int .i64 f, .int .i64 r, .int .i64 c]] w' fun e w'' => e = .returned (.bool true) ∧ Below w'.heap.size w' w'' from
        fun w' hb => by
          have h := rsame_any A1 A2 c1 c2 la lb o f r c A B ca cb la lb o f r c w' (Kd.C_below (R_C rfl HR1.out) hb) HLC.out.1 (Kd.C_below (R_C rfl HR2.out) hb) HLC.out.2 (Kd.C_below HA.out (below_step HB4.out hb)) HCA.out.1 (Kd.C_below HB.out (below_step HB4.out hb)) HCA.out.2 HL.out.1 HL.out.1
          rw [sameB_refl] at h
          exact h)
      clear hs
      have a0 := cell0 0 k2 rfl; have a1 := cell0 1 k2 rfl; have a2 := cell0 2 k2 rfl; have a3 := cell0 3 k2 rfl; have a4 := cell0 4 k2 rfl; have a5 := cell0 5 k2 rfl
      have b0 := cell0 0 k3 rfl; have b1 := cell0 1 k3 rfl; have b2 := cell0 2 k3 rfl; have b3 := cell0 3 k3 rfl; have b4 := cell0 4 k3 rfl; have b5 := cell0 5 k3 rfl
      have q0 := cell0 0 kk rfl; have q1 := cell0 1 kk rfl; have q2 := cell0 2 kk rfl; have q3 := cell0 3 kk rfl; have q4 := cell0 4 kk rfl; have q5 := cell0 5 kk rfl
      clear k2 k3 kk
      go_region_held3 (fun w' => Below W2.heap.size W2 w' ∧ w'.cell? ⟨w.heap.size, 0, none⟩ = some (.slice A la.length ca) ∧ w'.cell? ⟨w.heap.size, 1, none⟩ = some (.slice B lb.length cb) ∧ w'.cell? ⟨w.heap.size, 2, none⟩ = some (.int .i64 o) ∧ w'.cell? ⟨w.heap.size, 3, none⟩ = some (.int .i64 f) ∧ w'.cell? ⟨w.heap.size, 4, none⟩ = some (.int .i64 r) ∧ w'.cell? ⟨w.heap.size, 5, none⟩ = some (.int .i64 c) ∧ w'.cell? ⟨w.heap.size + 1, 0, none⟩ = some (.slice A' la'.length ca') ∧ w'.cell? ⟨w.heap.size + 1, 1, none⟩ = some (.slice B' lb'.length cb') ∧ w'.cell? ⟨w.heap.size + 1, 2, none⟩ = some (.int .i64 o') ∧ w'.cell? ⟨w.heap.size + 1, 3, none⟩ = some (.int .i64 f') ∧ w'.cell? ⟨w.heap.size + 1, 4, none⟩ = some (.int .i64 r') ∧ w'.cell? ⟨w.heap.size + 1, 5, none⟩ = some (.int .i64 c') ∧ w'.cell? ⟨g5, 0, none⟩ = some (.slice A1 la.length c1) ∧ w'.cell? ⟨g5, 1, none⟩ = some (.slice A2 lb.length c2) ∧ w'.cell? ⟨g5, 2, none⟩ = some (.int .i64 o) ∧ w'.cell? ⟨g5, 3, none⟩ = some (.int .i64 f) ∧ w'.cell? ⟨g5, 4, none⟩ = some (.int .i64 r) ∧ w'.cell? ⟨g5, 5, none⟩ = some (.int .i64 c))
    (first | (exact ⟨below_drew1 (Below.refl _ _), (World.cell?_drew _ _).trans a0, (World.cell?_drew _ _).trans a1, (World.cell?_drew _ _).trans a2, (World.cell?_drew _ _).trans a3, (World.cell?_drew _ _).trans a4, (World.cell?_drew _ _).trans a5, (World.cell?_drew _ _).trans b0, (World.cell?_drew _ _).trans b1, (World.cell?_drew _ _).trans b2, (World.cell?_drew _ _).trans b3, (World.cell?_drew _ _).trans b4, (World.cell?_drew _ _).trans b5, (World.cell?_drew _ _).trans q0, (World.cell?_drew _ _).trans q1, (World.cell?_drew _ _).trans q2, (World.cell?_drew _ _).trans q3, (World.cell?_drew _ _).trans q4, (World.cell?_drew _ _).trans q5⟩) | (have hH := ‹Below _ _ _ ∧ _›; exact ⟨below_step hH.1 ‹Below _ _ _›, cell_on ‹Below _ _ _› hH.2.1, cell_on ‹Below _ _ _› hH.2.2.1, cell_on ‹Below _ _ _› hH.2.2.2.1, cell_on ‹Below _ _ _› hH.2.2.2.2.1, cell_on ‹Below _ _ _› hH.2.2.2.2.2.1, cell_on ‹Below _ _ _› hH.2.2.2.2.2.2.1, cell_on ‹Below _ _ _› hH.2.2.2.2.2.2.2.1, cell_on ‹Below _ _ _› hH.2.2.2.2.2.2.2.2.1, cell_on ‹Below _ _ _› hH.2.2.2.2.2.2.2.2.2.1, cell_on ‹Below _ _ _› hH.2.2.2.2.2.2.2.2.2.2.1, cell_on ‹Below _ _ _› hH.2.2.2.2.2.2.2.2.2.2.2.1, cell_on ‹Below _ _ _› hH.2.2.2.2.2.2.2.2.2.2.2.2.1, cell_on ‹Below _ _ _› hH.2.2.2.2.2.2.2.2.2.2.2.2.2.1, cell_on ‹Below _ _ _› hH.2.2.2.2.2.2.2.2.2.2.2.2.2.2.1, cell_on ‹Below _ _ _› hH.2.2.2.2.2.2.2.2.2.2.2.2.2.2.2.1, cell_on ‹Below _ _ _› hH.2.2.2.2.2.2.2.2.2.2.2.2.2.2.2.2.1, cell_on ‹Below _ _ _› hH.2.2.2.2.2.2.2.2.2.2.2.2.2.2.2.2.2.1, cell_on ‹Below _ _ _› hH.2.2.2.2.2.2.2.2.2.2.2.2.2.2.2.2.2.2⟩) | (have hH := ‹Below _ _ _ ∧ _›; exact ⟨pw_below_drewN hH.1 _, hH.2.1, hH.2.2.1, hH.2.2.2.1, hH.2.2.2.2.1, hH.2.2.2.2.2.1, hH.2.2.2.2.2.2.1, hH.2.2.2.2.2.2.2.1, hH.2.2.2.2.2.2.2.2.1, hH.2.2.2.2.2.2.2.2.2.1, hH.2.2.2.2.2.2.2.2.2.2.1, hH.2.2.2.2.2.2.2.2.2.2.2.1, hH.2.2.2.2.2.2.2.2.2.2.2.2.1, hH.2.2.2.2.2.2.2.2.2.2.2.2.2.1, hH.2.2.2.2.2.2.2.2.2.2.2.2.2.2.1, hH.2.2.2.2.2.2.2.2.2.2.2.2.2.2.2.1, hH.2.2.2.2.2.2.2.2.2.2.2.2.2.2.2.2.1, hH.2.2.2.2.2.2.2.2.2.2.2.2.2.2.2.2.2.1, hH.2.2.2.2.2.2.2.2.2.2.2.2.2.2.2.2.2.2⟩))
    ((first
    | (go_at_call 50; (with_reducible refine (HS1.out _ (‹Below W2.heap.size W2 _ ∧ _›).1).mono ?_); rintro e w6 ⟨rfl, hb⟩)
    | (go_at_call 51; (with_reducible refine (HS2.out _ (‹Below W2.heap.size W2 _ ∧ _›).1).mono ?_); rintro e w6 ⟨rfl, hb⟩)
    | (go_at_call 51; (with_reducible refine (HS3.out _ (‹Below W2.heap.size W2 _ ∧ _›).1).mono ?_); rintro e w6 ⟨rfl, hb⟩)))
      have hh := (‹Below W2.heap.size W2 _ ∧ _›).1
      clear a0 a1 a2 a3 a4 a5 b0 b1 b2 b3 b4 b5 q0 q1 q2 q3 q4 q5
      have HB5 := Aside0.mk (below_step HB4.out hh)
      have HQ5 := Aside0.mk (below_step HQ4.out hh)
      have HR3 := Aside0.mk (Kd.R_below HR1.out hh)
      have HR4 := Aside0.mk (Kd.R_below HR2.out hh)
      have K7 := Aside0.mk (blk_below K5.out hh)
      have K8 := Aside0.mk (blk_below K2.out hh)
      have HZ6 := Aside0.mk (show w2.heap.size ≤ w6.heap.size from HQ5.out.size)
      generalize w6 = W3 at HB5 HQ5 HR3 HR4 K7 K8 HZ6 ⊢
      have x0 := cell0 0 K7.out rfl; have x1 := cell0 1 K7.out rfl; have x2 := cell0 2 K7.out rfl; have x3 := cell0 3 K7.out rfl; have x4 := cell0 4 K7.out rfl; have x5 := cell0 5 K7.out rfl
      go_wp2_with fail
      refine (clone2_any A1 A2 c1 c2 la lb o f r c _ (R_C rfl HR3.out) (R_C rfl HR4.out) HL.out.1).mono ?_
      rintro e w7 ⟨⟨A3, c3', A4, c4', rfl, HD⟩, hb7⟩
      clear x0 x1 x2 x3 x4 x5
      go_upto_region 7 with (fail)
      have hk6 := blk_new w7 (.cells #[.slice A3 la.length c3', .slice A4 lb.length c4', .int .i64 o, .int .i64 f, .int .i64 r, .int .i64 c] 41)
      have hb8 := below_step hb7 (below_alloc (Below.refl w7.heap.size w7) (.cells #[.slice A3 la.length c3', .slice A4 lb.length c4', .int .i64 o, .int .i64 f, .int .i64 r, .int .i64 c] 41))
      have HD1 := Aside0.mk (Kd.R_below HD.out.2.2.1 (below_alloc (Below.refl w7.heap.size w7) (.cells #[.slice A3 la.length c3', .slice A4 lb.length c4', .int .i64 o, .int .i64 f, .int .i64 r, .int .i64 c] 41)))
      have HD2 := Aside0.mk (Kd.R_below HD.out.2.2.2 (below_alloc (Below.refl w7.heap.size w7) (.cells #[.slice A3 la.length c3', .slice A4 lb.length c4', .int .i64 o, .int .i64 f, .int .i64 r, .int .i64 c] 41)))
      have HD3 := Aside0.mk (And.intro HD.out.1 HD.out.2.1)
      have HG6 := Aside0.mk (show W3.heap.size ≤ w7.heap.size ∧ w7.heap.size < (w7.alloc (.cells #[.slice A3 la.length c3', .slice A4 lb.length c4', .int .i64 o, .int .i64 f, .int .i64 r, .int .i64 c] 41)).heap.size from ⟨hb7.size, by simp⟩)
      clear hb7 HD
      obtain ⟨g6, hg6⟩ : ∃ g6, w7.heap.size = g6 := ⟨_, rfl⟩
      rw [hg6] at hk6 HG6 ⊢
      generalize w7.alloc (.cells #[.slice A3 la.length c3', .slice A4 lb.length c4', .int .i64 o, .int .i64 f, .int .i64 r, .int .i64 c] 41) = W5 at hk6 hb8 HD1 HD2 HG6 ⊢
      clear hg6
      have H35 := Aside0.mk hb8
      have K6 := Aside0.mk hk6
      have x0 := cell0 0 (blk_below K7.out hb8) rfl; have x1 := cell0 1 (blk_below K7.out hb8) rfl
      clear hb8 hk6
      obtain ⟨hs1, hl1, ho1, hi1⟩ := own_hdrs HR3.out
      obtain ⟨hs2, hl2, ho2, hi2⟩ := own_hdrs HR4.out
      have HLT := Aside0.mk (ho1.lt)
      have HI1 := Aside0.mk hi1
      have HI2 := Aside0.mk hi2
      have HO1 := Aside0.mk (pw_own_below ho1 H35.out)
      have HO2 := Aside0.mk (show ReadsOf encH hdr0 W5 A2 lb.length hs2 from by
        obtain ⟨A9, c9, e9, _, h9⟩ := own_readsOf (pw_own_below ho2 H35.out) rfl
        injection e9 with e1 e2 e3
        rw [e1, ← hl2]
        exact h9)
      have HQ8 := Aside0.mk (below_step HQ5.out H35.out)
      have hbs := Aside0.mk HQ8.out.size
      have HLN := Aside0.mk (show hs1.length + lb.length ≤ 1048576 by have := HL.out.1; omega)
      clear hl1 hl2 ho1 ho2 hi1 hi2
      go_wp2_with (first | ((with_reducible refine gate_builtin (b := .append) (xs := #[.tmp 37, .tmp 39]) rfl ?_); at_builtin; refine print_append_row_of (w0 := w2) encH hdr0 w2.heap.size rfl (.tmp 37) (.tmp 39) 35 47 (.slice none 0 0) 24 rfl Try.underlying35 info47' rfl (by omega) encH_one _ hs1 hs2 A2 lb.length c2 rfl rfl HO1.out HO2.out HQ8.out hbs.out ?aL ?_; (case aL => have := HLN.out; omega); intro v9 w8 ho hb hg hat; have HO := Aside0.mk ho; have HB8 := Aside0.mk hb; have HGR := Aside0.mk hg; clear ho hb hg hat; obtain ⟨A9, c9, e9, _, _⟩ := own_readsOf HO.out rfl; subst e9))
      have HJ : Aside0 (JS w W5 w.heap.size w2.heap.size W3.heap.size W3.heap.size w2.heap.size #[.slice A la.length ca, .slice B lb.length cb, .int .i64 o, .int .i64 f, .int .i64 r, .int .i64 c] (.slice A9 (hs1 ++ hs2).length c9) (hs1 ++ hs2) w8) := by
        have hkA := blk_below K8.out H35.out
        have ints : ∀ h, IntRing w2.heap.size W3.heap.size W3 h → IntRing w2.heap.size W3.heap.size w8 h := fun h hr =>
          (hr.keep (W' := W5) fun g cur _ hg _ => H35.out.block g hg).keep fun g cur hg1 hg2 hg3 => HGR.out.block g (Array.getElem?_eq_some_iff.1 hg3).1 (own_ne HO1.out hg3 (by decide))
        refine ⟨⟨below_step HB1.out HB8.out, fun k h1 h2 => HGR.out.block k h2 (fun e => ?_), (HGR.out.block w.heap.size (Array.getElem?_eq_some_iff.1 hkA).1 (own_ne HO1.out hkA (by decide))).trans hkA, HO.out, fun h hm => ?_⟩⟩
        · have := (HLT.out k e.symm).2; omega
        · rcases List.mem_append.1 hm with hm | hm
          · exact ints h (HI1.out h hm)
          · exact ints h (HI2.out h hm)
      obtain ⟨hs, hhs⟩ : ∃ hs, hs1 ++ hs2 = hs := ⟨_, rfl⟩
      obtain ⟨N, hN⟩ : ∃ N, hs.length = N := ⟨_, rfl⟩
      have hN' : (hs1 ++ hs2).length = N := by rw [hhs]; exact hN
      have hN2 : N ≤ 2097152 := by have := HLN.out; have h2 := HO2.out.1; have h3 := HL.out.1; rw [← hN', List.length_append, h2]; omega
      rw [hN'] at HJ
      rw [hhs] at HJ
      rw [List.length_append] at hN'
      rw [hN', show (hs1.length : Int) + (hs2.length : Int) = (N : Int) by omega]
      have HNN := Aside0.mk hN
      have HZ := Aside0.mk (show w.heap.size ≤ w2.heap.size by have := HZ1.out; omega)
      clear hN hN' hhs x0 x1
      go_loopw [42] (fun i wr => ∃ k : Nat, i = .int .i64 k ∧ Aside0 (k ≤ N) ∧ Aside0 (JS w W5 w.heap.size w2.heap.size W3.heap.size W3.heap.size w2.heap.size #[.slice A la.length ca, .slice B lb.length cb, .int .i64 o, .int .i64 f, .int .i64 r, .int .i64 c] (.slice A9 N c9) hs wr)) (fun i _ => N - (intOf i).toNat)
      case atStart => exact ⟨0, rfl, ⟨Nat.zero_le _⟩, HJ⟩
      case round =>
        obtain ⟨k, rfl, Hk, HJr⟩ := hrel
        have hk := Hk.out
        have hNi : (N : Int) ≤ 2097152 := by omega
        by_cases hlt : k < N
        · have hlt' : (k : Int) < (N : Int) := by omega
          have d0 : decide ((k : Int) < (N : Int)) = true := decide_eq_true hlt'
          obtain ⟨A9', c9', e9, _, hrd⟩ := own_readsOf HJr.out.row rfl
          injection e9 with e1 e2 e3
          rw [← e1, HNN.out] at hrd
          obtain ⟨ad, e4, hx⟩ := hrd.at_ (k : Int) (by omega) hlt'
          subst e4
          clear e1 e2 e3 hrd
          simp only [Int.toNat_natCast] at hx
          have hmem : rdOf hdr0 hs (k : Int) ∈ hs := by
            have hl2 : k < hs.length := by have := HNN.out; omega
            have : rdOf hdr0 hs (k : Int) = hs[k] := by simp [rdOf, List.getD_eq_getElem?_getD, hl2]
            rw [this]
            exact List.getElem_mem _
          have HMEM := Aside0.mk hmem
          generalize rdOf hdr0 hs (k : Int) = hd at hx HMEM
          clear hmem
          obtain ⟨hA, hn, hc⟩ := hd
          change _ = some (Value.slice hA hn hc) at hx
          have q0 : (0 : Int) ≤ (k : Int) := by omega
          go_wp2_with fail
          clear hx
          go_loopw [48] (fun i wq => ∃ j : Nat, i = .int .i64 j ∧ Aside0 (j ≤ hn) ∧ Aside0 (JS w W5 w.heap.size w2.heap.size W3.heap.size W3.heap.size w2.heap.size #[.slice A la.length ca, .slice B lb.length cb, .int .i64 o, .int .i64 f, .int .i64 r, .int .i64 c] (.slice (some ad) N c9) hs wq)) (fun i _ => hn - (intOf i).toNat)
          case atStart => exact ⟨0, rfl, ⟨Nat.zero_le _⟩, HJr⟩
          case round =>
            obtain ⟨j, rfl, Hj, HJq⟩ := hrel
            have hj := Hj.out
            by_cases hjt : j < hn
            · have hjt' : (j : Int) < (hn : Int) := by omega
              have d1 : decide ((j : Int) < (hn : Int)) = true := decide_eq_true hjt'
              rcases HJq.out.ints _ HMEM.out with h0 | ⟨g, cur, h1, h2, h3, h4, h5, h6, h7⟩
              · exact absurd h0 (by show ¬ hn = 0; omega)
              · have e1 : hA = some ⟨g, 0, none⟩ := h1
                subst e1
                have h6' : (hn : Int) ≤ 9223372036854775807 := by have : hn ≤ 9223372036854775807 := h6; omega
                obtain ⟨x, hx⟩ := h7 (j * 2) (by show j * 2 < hn * 2; omega)
                have z0 : wr.cell? ⟨g, j * 2, none⟩ = some (.int .i64 x) := (blk_cell h4 (j * 2)).trans hx
                have z1 := blk_frozen h4 (j * 2)
                have HG := Aside0.mk h4
                have H23 := Aside0.mk (And.intro h2 h3)
                have q1 : (0 : Int) ≤ (j : Int) := by omega
                have q2 : (⟨g, 0, none⟩ : Addr).add (j * 2) = ⟨g, j * 2, none⟩ := addr_add g (j * 2)
                clear h1 h2 h3 h4 h5 h6 h7 hx
                go_wp2_with fail
                go_roundw
                case rel => exact ⟨j + 1, by go_num, ⟨by omega⟩, ⟨HJq.out.set HZ.out (Nat.le_refl _) H23.out.1 H23.out.2 HG.out _ _⟩⟩
                case measure => simp [intOf]; omega
            · obtain rfl : j = hn := by omega
              have d1 : decide ((j : Int) < (j : Int)) = false := by simp
              go_wp2_with fail
              go_roundw
              case rel => exact ⟨k + 1, by go_num, ⟨by omega⟩, HJq⟩
              case measure => simp [intOf]; omega
        · obtain rfl : k = N := by omega
          have d0 : decide ((k : Int) < (k : Int)) = false := by simp
          have hg6 : wr.heap[g6]? = some (.cells #[.slice A3 la.length c3', .slice A4 lb.length c4', .int .i64 o, .int .i64 f, .int .i64 r, .int .i64 c] 41 (0, 0)) := (HJr.out.dr g6 HG6.out.1 HG6.out.2).trans K6.out
          have hbx := HJr.out.box
          have HE1 := Aside0.mk (Kd.R_mono (Kd.R_step (Kd.R_bound HD1.out) (w1 := wr) (fun k hk hlt => HJr.out.dr k hk.2.1 hlt)) (ok' := fun _ => True) (fun _ _ => trivial))
          have HE2 := Aside0.mk (Kd.R_mono (Kd.R_step (Kd.R_bound HD2.out) (w1 := wr) (fun k hk hlt => HJr.out.dr k hk.2.1 hlt)) (ok' := fun _ => True) (fun _ _ => trivial))
          have HBE := Aside0.mk HJr.out.below
          have KG := Aside0.mk hg6
          have KX := Aside0.mk hbx
          clear hg6 hbx
          go_wp2_with fail
          refine (alive11_any _).mono ?_
          rintro e w9 ⟨rfl, hb9⟩
          have hg6 := blk_below KG.out hb9
          have hbx := blk_below KX.out hb9
          have x0 := cell0 0 hg6 rfl; have x1 := cell0 1 hg6 rfl; have x2 := cell0 2 hg6 rfl; have x3 := cell0 3 hg6 rfl; have x4 := cell0 4 hg6 rfl; have x5 := cell0 5 hg6 rfl
          have y0 := cell0 0 hbx rfl; have y1 := cell0 1 hbx rfl; have y2 := cell0 2 hbx rfl; have y3 := cell0 3 hbx rfl; have y4 := cell0 4 hbx rfl; have y5 := cell0 5 hbx rfl
          have HBF := Aside0.mk (below_step HBE.out hb9)
          have HE3 := Aside0.mk (Kd.R_below HE1.out hb9)
          have HE4 := Aside0.mk (Kd.R_below HE2.out hb9)
          clear hg6 hbx hb9
          go_wp2_with fail
          have hfin := rsame_any A3 A4 c3' c4' la lb o f r c A B ca cb la lb o f r c w9 (R_C rfl HE3.out) HD3.out.1 (R_C rfl HE4.out) HD3.out.2 (Kd.C_below HA.out HBF.out) HCA.out.1 (Kd.C_below HB.out HBF.out) HCA.out.2 HL.out.1 HL.out.1
          rw [sameB_refl] at hfin
          refine hfin.mono ?_
          clear hfin
          rintro e w10 ⟨rfl, hb10⟩
          clear x0 x1 x2 x3 x4 x5 y0 y1 y2 y3 y4 y5
          go_wp2_with fail
          go_ret
          exact ⟨rfl, below_step HBF.out hb10⟩

theorem inputSame_walk (w : World) (A : Option Addr) (ca : Nat) (la : List (List S23)) (hca : la.length ≤ ca) (hA : Kd.C (Kd.slice 23 k23) w A la.length la) (B : Option Addr) (cb : Nat) (lb : List (List S23)) (hcb : lb.length ≤ cb) (hB : Kd.C (Kd.slice 23 k23) w B lb.length lb)
    (o f r c : Int) (A' : Option Addr) (ca' : Nat) (la' : List (List S23)) (hca' : la'.length ≤ ca') (hA' : Kd.C (Kd.slice 23 k23) w A' la'.length la') (B' : Option Addr) (cb' : Nat) (lb' : List (List S23)) (hcb' : lb'.length ≤ cb') (hB' : Kd.C (Kd.slice 23 k23) w B' lb'.length lb')
    (o' f' r' c' : Int) (hl : la.length + sumL la + (lb.length + sumL lb) + (la'.length + sumL la' + (lb'.length + sumL lb')) ≤ 1048576) :
    Calls Try.prog 15 #[.agg #[.slice A la.length ca, .slice B lb.length cb, .int .i64 o, .int .i64 f, .int .i64 r, .int .i64 c], .agg #[.slice A' la'.length ca', .slice B' lb'.length cb', .int .i64 o', .int .i64 f', .int .i64 r', .int .i64 c']] w fun e w' => e = .returned (.bool true) ∧ Below w.heap.size w w' :=
  same_in w A ca la hca hA B cb lb hcb hB o f r c A' ca' la' hca' hA' B' cb' lb' hcb' hB' o' f' r' c' (by omega) (by omega)
end Go.Proofs.Ytpfgjagpaddcpaa.Own
