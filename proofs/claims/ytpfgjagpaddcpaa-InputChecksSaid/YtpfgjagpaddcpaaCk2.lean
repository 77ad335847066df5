import Derived.Test.YtpfgjagpaddcpaaCk1
import Derived.Test.YtpfgjagpaddcpaaBa6
/-! Texts that this law leans on, put together by a program of this session: Q1 G5. -/
/-! The reference's Check answers as Check. -/
namespace Go.Proofs.Ytpfgjagpaddcpaa.Own
open Go.RowKit Go.Proofs.YtpfgjagpaddcpaaW.PrintWords Go.Proofs.YtpfgjagpaddcpaaW.PrintLast Go.Proofs.YtpfgjagpaddcpaaW.PrintMore
open Go.Proofs.Ytpfgjagpaddcpaa.X
set_option linter.unusedVariables false
set_option linter.unusedSimpArgs false

/-- How many points, counted no further than 256. -/
def ptsB : Int → List (List S23) → Int
  | n, [] => n
  | n, r :: rs => if n ≤ 256 then (if 256 < (r.length : Int) then 257 else ptsB (n + r.length) rs) else n

theorem ptsB_spec (ls : List (List S23)) : ∀ n : Int, 0 ≤ n → n ≤ 512 → (n + sumL ls ≤ 256 → ptsB n ls = n + sumL ls) ∧ (256 < n + sumL ls → 256 < ptsB n ls) ∧ ptsB n ls ≤ 512 ∧ 0 ≤ ptsB n ls := by
  induction ls with
  | nil => intro n h0 h1; simp [ptsB, sumL]; omega
  | cons r rs ih =>
    intro n h0 h1
    have hs : sumL (r :: rs) = r.length + sumL rs := by simp [sumL]
    rw [hs]
    unfold ptsB
    by_cases h2 : n ≤ 256
    · rw [if_pos h2]
      by_cases h3 : 256 < (r.length : Int)
      · rw [if_pos h3]; omega
      · rw [if_neg h3]
        have := ih (n + r.length) (by omega) (by omega)
        omega
    · rw [if_neg h2]; omega

theorem cntB_spec (ls : List (List S23)) : ∀ n : Int, 0 ≤ n → n ≤ 256 → (n + sumL ls ≤ 256 → cntB n ls = n + sumL ls) ∧ (256 < n + sumL ls → 256 < cntB n ls) := by
  induction ls with
  | nil => intro n h0 h1; simp [cntB, sumL]
  | cons r rs ih =>
    intro n h0 h1
    have hs : sumL (r :: rs) = r.length + sumL rs := by simp [sumL]
    rw [hs]
    unfold cntB mn
    by_cases h2 : (257 : Int) < r.length
    · rw [if_pos h2]
      rw [if_pos (by omega)]
      omega
    · rw [if_neg h2]
      by_cases h3 : 256 < n + r.length
      · rw [if_pos h3]; omega
      · rw [if_neg h3]
        have := ih (n + r.length) (by omega) (by omega)
        omega

theorem cnt_iff (la lb : List (List S23)) : (cntB 0 (la ++ lb) < 1 ∨ 256 < cntB 0 (la ++ lb)) ↔ (ptsB 0 la + ptsB 0 lb < 1 ∨ 256 < ptsB 0 la + ptsB 0 lb) := by
  have h1 := ptsB_spec la 0 (by omega) (by omega)
  have h2 := ptsB_spec lb 0 (by omega) (by omega)
  have h3 := cntB_spec (la ++ lb) 0 (by omega) (by omega)
  rw [sumL_app] at h3
  omega

theorem points_ev (ls : List (List S23)) (hl : ls.length ≤ 1000000) : ∀ (m i : Nat) (n : Int), ls.length - i = m → i ≤ ls.length → 0 ≤ n → n ≤ 512 → Ev (fun k => cobwebref11_points.l0 k ls n i) (ptsB n (ls.drop i)) := by
  intro m
  induction m with
  | zero =>
    intro i n hm hi h0 h1
    obtain rfl : i = ls.length := by omega
    rw [List.drop_length]
    refine Ev.step (h := fun k => cobwebref11_points.j1 k ls n ls.length false) (Ev.step (Ev.const _) fun k => ?_) fun k => ?_
    · simp [cobwebref11_points.j1, ptsB]
    · simp [cobwebref11_points.l0]
  | succ m ih =>
    intro i n hm hi h0 h1
    have hlt : i < ls.length := by omega
    rw [getD_drop ls [] i hlt]
    have hr : rd_L2 ls (i : Int) = ls.getD i [] := by simp [rd_L2]
    generalize ls.getD i [] = r at hr ⊢
    have hi' : (i : Int) < (ls.length : Int) := by omega
    refine Ev.step (h := fun k => cobwebref11_points.j1 k ls n i (decide (n ≤ 256))) ?_ fun k => by simp only [cobwebref11_points.l0, if_pos hi']
    by_cases h2 : n ≤ 256
    · by_cases h3 : 256 < (r.length : Int)
      · refine Ev.step (Ev.const _) fun k => ?_
        simp only [cobwebref11_points.j1, decide_eq_true h2, if_true, if_pos (show (0 : Int) ≤ i by omega), if_pos hi', hr, if_pos h3, ptsB, if_pos h2]
      · refine Ev.step (h := fun k => cobwebref11_points.l0 k ls (n + r.length) ((i + 1 : Nat) : Int)) ?_ fun k => ?_
        · have := ih (i + 1) (n + r.length) (by omega) (by omega) (by omega) (by omega)
          simp only [ptsB, if_pos h2, if_neg h3]
          exact this
        · simp only [cobwebref11_points.j1, decide_eq_true h2, if_true, if_pos (show (0 : Int) ≤ i by omega), if_pos hi', hr, if_neg h3]
          rw [wrap_id (n := n + r.length) (by omega), wrap_id (n := (i : Int) + 1) (by omega)]
          rfl
    · refine Ev.step (Ev.const _) fun k => ?_
      simp only [cobwebref11_points.j1, decide_eq_false h2, Bool.false_eq_true, if_false, ptsB, if_neg h2]

theorem points_f (ls : List (List S23)) (hl : ls.length ≤ 1000000) : Ev (fun k => cobwebref11_points.f k ls) (ptsB 0 ls) := by
  have := points_ev ls hl ls.length 0 0 (by omega) (by omega) (by omega) (by omega)
  exact this.congr fun k => rfl

theorem allNear_drop (r : List S23) (j : Nat) (h : j < r.length) : allNear (r.drop j) = (nearC (r.getD j z23).f0 (r.getD j z23).f1 && allNear (r.drop (j + 1))) := by
  rw [getD_drop r z23 j h]
  rfl

theorem nearC_iff (x y : Int) : nearC x y = true ↔ (-67108864 ≤ x ∧ x ≤ 67108864 ∧ -67108864 ≤ y ∧ y ≤ 67108864) := by unfold nearC; exact decide_eq_true_iff

theorem rings1_ev (ls : List (List S23)) (i : Nat) (hi : i < ls.length) (hl : ls.length ≤ 1000000) (r : List S23) (hr : ls.getD i [] = r) (hrl : r.length ≤ 1000000) (v : Int) (hv : Ev (fun k => cobwebref11_rings.l0 k ls ((i + 1 : Nat) : Int)) v) :
    ∀ (m j : Nat), r.length - j = m → j ≤ r.length → Ev (fun k => cobwebref11_rings.l1 k ls i j) (if allNear (r.drop j) = false then 115 else v) := by
  have hr' : rd_L2 ls (i : Int) = r := by rw [← hr]; simp [rd_L2]
  have hi' : (i : Int) < (ls.length : Int) := by omega
  have hi0 : (0 : Int) ≤ (i : Int) := by omega
  intro m
  induction m with
  | zero =>
    intro j hm hj
    obtain rfl : j = r.length := by omega
    rw [List.drop_length]
    refine Ev.step hv fun k => ?_
    simp only [cobwebref11_rings.l1, if_pos hi0, if_pos hi', hr', if_neg (show ¬ (r.length : Int) < (r.length : Int) by omega)]
    rw [wrap_id (by omega)]
    rfl
  | succ m ih =>
    intro j hm hj
    have hjl : j < r.length := by omega
    have hj' : (j : Int) < (r.length : Int) := by omega
    have hj0 : (0 : Int) ≤ (j : Int) := by omega
    have hp : rd_T23 r (j : Int) = r.getD j z23 := by simp [rd_T23]
    rw [allNear_drop r j hjl]
    have hn := nearC_iff (r.getD j z23).f0 (r.getD j z23).f1
    generalize r.getD j z23 = p at hp hn ⊢
    cases hc : nearC p.f0 p.f1 with
    | false =>
      rw [hc] at hn
      refine Ev.step (Ev.const _) fun k => ?_
      simp only [cobwebref11_rings.l1, if_pos hi0, if_pos hi', hr', if_pos hj', if_pos hj0, hp, Bool.false_and, if_true]
      by_cases a1 : p.f0 > 67108864
      · rw [if_pos a1]
      · rw [if_neg a1]
        by_cases a2 : p.f0 < -67108864
        · rw [if_pos a2]
        · rw [if_neg a2]
          by_cases a3 : p.f1 > 67108864
          · rw [if_pos a3]
          · rw [if_neg a3]
            by_cases a4 : p.f1 < -67108864
            · rw [if_pos a4]
            · exact absurd (hn.2 ⟨by omega, by omega, by omega, by omega⟩) (by simp)
    | true =>
      rw [hc] at hn
      have h4 := hn.1 rfl
      refine Ev.step (ih (j + 1) (by omega) (by omega)) fun k => ?_
      simp only [cobwebref11_rings.l1, if_pos hi0, if_pos hi', hr', if_pos hj', if_pos hj0, hp]
      rw [if_neg (by omega), if_neg (by omega), if_neg (by omega), if_neg (by omega), wrap_id (by omega)]
      rfl

theorem rings_ev (ls : List (List S23)) (hl : ls.length ≤ 1000000) (hls : ∀ r ∈ ls, r.length ≤ 1000000) : ∀ (m i : Nat), ls.length - i = m → i ≤ ls.length → Ev (fun k => cobwebref11_rings.l0 k ls i) (ringsB (ls.drop i)) := by
  intro m
  induction m with
  | zero =>
    intro i hm hi
    obtain rfl : i = ls.length := by omega
    rw [List.drop_length]
    refine Ev.step (Ev.const _) fun k => ?_
    simp only [cobwebref11_rings.l0, if_neg (show ¬ (ls.length : Int) < (ls.length : Int) by omega), ringsB]
  | succ m ih =>
    intro i hm hi
    have hlt : i < ls.length := by omega
    have hi' : (i : Int) < (ls.length : Int) := by omega
    have hi0 : (0 : Int) ≤ (i : Int) := by omega
    have hmem : ls.getD i [] ∈ ls := by
      rw [List.getD_eq_getElem?_getD, List.getElem?_eq_getElem hlt]
      exact List.getElem_mem _
    have hrl := hls _ hmem
    rw [ringsB_drop ls i hlt]
    have hr' : rd_L2 ls (i : Int) = ls.getD i [] := by simp [rd_L2]
    have h1 := rings1_ev ls i hlt hl (ls.getD i []) rfl hrl _ (ih (i + 1) (by omega) (by omega)) (ls.getD i []).length 0 (by omega) (by omega)
    rw [List.drop_zero] at h1
    generalize ls.getD i [] = r at hr' h1 ⊢
    by_cases h3 : r.length < 3
    · rw [if_pos h3]
      refine Ev.step (Ev.const _) fun k => ?_
      simp only [cobwebref11_rings.l0, if_pos hi0, if_pos hi', hr', if_pos (show (r.length : Int) < 3 by omega)]
    · rw [if_neg h3]
      refine Ev.step h1 fun k => ?_
      simp only [cobwebref11_rings.l0, if_pos hi0, if_pos hi', hr', if_neg (show ¬ (r.length : Int) < 3 by omega)]
      rfl

theorem rings_f (ls : List (List S23)) (hl : ls.length ≤ 1000000) (hls : ∀ r ∈ ls, r.length ≤ 1000000) : Ev (fun k => cobwebref11_rings.f k ls) (ringsB ls) := by
  have := rings_ev ls hl hls ls.length 0 (by omega) (by omega)
  exact this.congr fun k => rfl

theorem or_dec {α : Type} {g : Bool → α} {c d : Prop} [Decidable c] [Decidable d] {v : α} (h : g (decide (c ∨ d)) = v) : (if c then g true else g (decide d)) = v := by
  by_cases hc : c
  · rw [if_pos hc, ← h]; simp [hc]
  · rw [if_neg hc, ← h]; simp [hc]

theorem check_f (la lb : List (List S23)) (o f r c : Int) (hl : la.length ≤ 300 ∧ lb.length ≤ 300) : Ev (fun k => cobwebref11_Check.f k la lb o f r c) (checkB la lb o f r c) := by
  have e0 : ∀ k, cobwebref11_Check.f k la lb o f r c = cobwebref11_Check.j0 k (decide (o < 0 ∨ o > 3)) la lb o f r c := fun k => or_dec (g := fun b => cobwebref11_Check.j0 k b la lb o f r c) rfl
  refine Ev.congr ?_ e0
  unfold checkB
  by_cases h0 : o < 0 ∨ o > 3
  · refine Ev.step (Ev.const _) fun k => ?_
    simp only [cobwebref11_Check.j0, decide_eq_true h0, if_true, if_pos (show o < 0 ∨ 3 < o from h0)]
  · rw [if_neg (show ¬ (o < 0 ∨ 3 < o) from h0)]
    refine Ev.step (h := fun k => cobwebref11_Check.j1 k (decide (f < 0 ∨ f > 1)) la lb o f r c) ?_ fun k => by
      simp only [cobwebref11_Check.j0, decide_eq_false h0, Bool.false_eq_true, if_false]
      exact or_dec (g := fun b => cobwebref11_Check.j1 k b la lb o f r c) rfl
    by_cases h1 : f < 0 ∨ f > 1
    · refine Ev.step (Ev.const _) fun k => ?_
      simp only [cobwebref11_Check.j1, decide_eq_true h1, if_true, if_pos (show f < 0 ∨ 1 < f from h1)]
    · rw [if_neg (show ¬ (f < 0 ∨ 1 < f) from h1)]
      refine Ev.step (h := fun k => cobwebref11_Check.j2 k (decide (r < 0 ∨ r > 28)) la lb o f r c) ?_ fun k => by
        simp only [cobwebref11_Check.j1, decide_eq_false h1, Bool.false_eq_true, if_false]
        exact or_dec (g := fun b => cobwebref11_Check.j2 k b la lb o f r c) rfl
      by_cases h2 : r < 0 ∨ r > 28
      · refine Ev.step (Ev.const _) fun k => ?_
        simp only [cobwebref11_Check.j2, decide_eq_true h2, if_true, if_pos (show r < 0 ∨ 28 < r from h2)]
      · rw [if_neg (show ¬ (r < 0 ∨ 28 < r) from h2)]
        refine Ev.step (h := fun k => cobwebref11_Check.j3 k (decide (c < 1 ∨ c > 1024)) la lb o f r c) ?_ fun k => by
          simp only [cobwebref11_Check.j2, decide_eq_false h2, Bool.false_eq_true, if_false]
          exact or_dec (g := fun b => cobwebref11_Check.j3 k b la lb o f r c) rfl
        by_cases h3 : c < 1 ∨ c > 1024
        · refine Ev.step (Ev.const _) fun k => ?_
          simp only [cobwebref11_Check.j3, decide_eq_true h3, if_true, if_pos (show c < 1 ∨ 1024 < c from h3)]
        · rw [if_neg (show ¬ (c < 1 ∨ 1024 < c) from h3)]
          have p1 := ptsB_spec la 0 (by omega) (by omega)
          have p2 := ptsB_spec lb 0 (by omega) (by omega)
          have hw : wrap64 (ptsB 0 la + ptsB 0 lb) = ptsB 0 la + ptsB 0 lb := wrap_id (by omega)
          refine Ev.step (h := fun k => (cobwebref11_points.f k la).bind fun t261 => (cobwebref11_points.f k lb).bind fun t262 => if wrap64 (t261 + t262) < 1 then cobwebref11_Check.j4 k true la lb o f r c else cobwebref11_Check.j4 k (decide (wrap64 (t261 + t262) > 256)) la lb o f r c) ?_ fun k => by
            simp only [cobwebref11_Check.j3, decide_eq_false h3, Bool.false_eq_true, if_false]
          refine Ev.bind (f := fun k t261 => (cobwebref11_points.f k lb).bind fun t262 => if wrap64 (t261 + t262) < 1 then cobwebref11_Check.j4 k true la lb o f r c else cobwebref11_Check.j4 k (decide (wrap64 (t261 + t262) > 256)) la lb o f r c) (points_f la (by omega)) ?_
          refine Ev.bind (f := fun k t262 => if wrap64 (ptsB 0 la + t262) < 1 then cobwebref11_Check.j4 k true la lb o f r c else cobwebref11_Check.j4 k (decide (wrap64 (ptsB 0 la + t262) > 256)) la lb o f r c) (points_f lb (by omega)) ?_
          rw [hw]
          refine Ev.congr (h := fun k => cobwebref11_Check.j4 k (decide (ptsB 0 la + ptsB 0 lb < 1 ∨ ptsB 0 la + ptsB 0 lb > 256)) la lb o f r c) ?_ fun k => or_dec (g := fun b => cobwebref11_Check.j4 k b la lb o f r c) rfl
          have hci := cnt_iff la lb
          by_cases h4 : ptsB 0 la + ptsB 0 lb < 1 ∨ ptsB 0 la + ptsB 0 lb > 256
          · rw [if_pos (hci.2 h4)]
            refine Ev.step (Ev.const _) fun k => ?_
            simp only [cobwebref11_Check.j4, decide_eq_true h4, if_true]
          · rw [if_neg (fun h => h4 (hci.1 h))]
            have hsa : ∀ r ∈ la, r.length ≤ 1000000 := fun r hr => by have := sumL_mem la r hr; omega
            have hsb : ∀ r ∈ lb, r.length ≤ 1000000 := fun r hr => by have := sumL_mem lb r hr; omega
            refine Ev.step (h := fun k => (cobwebref11_rings.f k la).bind fun t263 => if t263 = 0 then (cobwebref11_rings.f k lb).bind fun t264 => some t264 else some t263) ?_ fun k => by
              simp only [cobwebref11_Check.j4, decide_eq_false h4, Bool.false_eq_true, if_false]
            refine Ev.bind (f := fun k t263 => if t263 = 0 then (cobwebref11_rings.f k lb).bind fun t264 => some t264 else some t263) (rings_f la (by omega) hsa) ?_
            by_cases h5 : ringsB la = 0
            · simp only [if_pos h5]
              refine Ev.congr (rings_f lb (by omega) hsb) fun k => by simp
            · simp only [if_neg h5]
              exact Ev.const _
end Go.Proofs.Ytpfgjagpaddcpaa.Own

/-! InputChecks, walked. -/
namespace Go.Proofs.Ytpfgjagpaddcpaa.Own
open Go.RowKit Go.Proofs.YtpfgjagpaddcpaaW.PrintWords Go.Proofs.YtpfgjagpaddcpaaW.PrintLast Go.Proofs.YtpfgjagpaddcpaaW.PrintMore
open Go.Proofs.Ytpfgjagpaddcpaa.X
set_option linter.unusedVariables false
set_option linter.unusedSimpArgs false

theorem lens_of {w : World} {A : Option Addr} {ls : List (List S23)} (h : Kd.C (Kd.slice 23 k23) w A ls.length ls) : ∀ r ∈ ls, r.length ≤ 9223372036854775807 := by
  obtain ⟨hs, _, hh⟩ := hdrs_of h
  intro r hr
  obtain ⟨i, hi, rfl⟩ := List.mem_iff_getElem.1 hr
  obtain ⟨_, _, h3⟩ := hh.2 i hi
  have h4 := h3.2.1
  rw [List.getD_eq_getElem?_getD, List.getElem?_eq_getElem hi] at h4
  exact h4

theorem chk_any (A B : Option Addr) (ca cb : Nat) (la lb : List (List S23)) (o f r c : Int) (w : World) (hA : Kd.C (Kd.slice 23 k23) w A la.length la) (hca : la.length ≤ ca) (hB : Kd.C (Kd.slice 23 k23) w B lb.length lb) (hcb : lb.length ≤ cb) (hl : la.length ≤ 300 ∧ lb.length ≤ 300) :
    Calls Try.prog 45 #[.agg #[.slice A la.length ca, .slice B lb.length cb, .int .i64 o, .int .i64 f, .int .i64 r, .int .i64 c]] w fun e w' => e = .returned (.int .i64 (checkB la lb o f r c)) ∧ Below w.heap.size w w' :=
  check_any A B ca cb la lb o f r c w hA hB hca hcb (by omega) (lens_of hA) (lens_of hB)
theorem rchk_any (A B : Option Addr) (ca cb : Nat) (la lb : List (List S23)) (o f r c : Int) (w : World) (hA : Kd.C (Kd.slice 23 k23) w A la.length la) (hca : la.length ≤ ca) (hB : Kd.C (Kd.slice 23 k23) w B lb.length lb) (hcb : lb.length ≤ cb) (hl : la.length ≤ 300 ∧ lb.length ≤ 300) :
    Calls Try.prog 46 #[.agg #[.slice A la.length ca, .slice B lb.length cb, .int .i64 o, .int .i64 f, .int .i64 r, .int .i64 c]] w fun e w' => e = .returned (.int .i64 (checkB la lb o f r c)) ∧ Below w.heap.size w w' := by
  obtain ⟨k, hk⟩ := (check_f la lb o f r c hl).get
  exact cobwebref11_Check.calls k A ca la B cb lb o f r c _ w hA hca hB hcb hk

set_option maxRecDepth 100000 in
set_option maxHeartbeats 8000000 in
theorem inputChecks_walk (w : World) (A : Option Addr) (ca : Nat) (la : List (List S23)) (hca : la.length ≤ ca) (hA : Kd.C (Kd.slice 23 k23) w A la.length la) (B : Option Addr) (cb : Nat) (lb : List (List S23)) (hcb : lb.length ≤ cb) (hB : Kd.C (Kd.slice 23 k23) w B lb.length lb)
    (o f r c : Int) :
    Calls Try.prog 13 #[.agg #[.slice A la.length ca, .slice B lb.length cb, .int .i64 o, .int .i64 f, .int .i64 r, .int .i64 c]] w fun e w' => e = .returned (.bool true) ∧ Below w.heap.size w w' := by
  have hu37 := Try.underlying37
  have hu41 := Try.underlying41
  have HA := Aside0.mk hA
  have HB := Aside0.mk hB
  have HCA := Aside0.mk hca
  have HCB := Aside0.mk hcb
  clear hA hB hca hcb
  by_cases h1 : 300 < (la.length : Int)
  · have d1 : decide (300 < (la.length : Int)) = true := decide_eq_true h1
    go_enter Try.func13, Try.ntmps13
    go_wp2_with (go_at_call 31; (with_reducible refine (alive11_any _).mono ?_); rintro e w4 ⟨rfl, hb⟩)
    go_ret
    exact ⟨rfl, below_step (below_alloc (Below.refl w.heap.size w) _) hb⟩
  · have d1 : decide (300 < (la.length : Int)) = false := decide_eq_false h1
    by_cases h2 : 300 < (lb.length : Int)
    · have d2 : decide (300 < (lb.length : Int)) = true := decide_eq_true h2
      go_enter Try.func13, Try.ntmps13
      go_wp2_with (go_at_call 31; (with_reducible refine (alive11_any _).mono ?_); rintro e w4 ⟨rfl, hb⟩)
      go_ret
      exact ⟨rfl, below_step (below_alloc (Below.refl w.heap.size w) _) hb⟩
    · have d2 : decide (300 < (lb.length : Int)) = false := decide_eq_false h2
      have HL := Aside0.mk (show la.length ≤ 300 ∧ lb.length ≤ 300 by omega)
      go_enter Try.func13, Try.ntmps13
      go_wp2_with fail
      have hk := blk_new w (.cells #[.slice A la.length ca, .slice B lb.length cb, .int .i64 o, .int .i64 f, .int .i64 r, .int .i64 c] 37)
      have HW0 := Aside0.mk (below_alloc (Below.refl w.heap.size w) (.cells #[.slice A la.length ca, .slice B lb.length cb, .int .i64 o, .int .i64 f, .int .i64 r, .int .i64 c] 37))
      generalize w.alloc (.cells #[.slice A la.length ca, .slice B lb.length cb, .int .i64 o, .int .i64 f, .int .i64 r, .int .i64 c] 37) = W0 at hk HW0 ⊢
      obtain ⟨g, hg⟩ : ∃ g, w.heap.size = g := ⟨_, rfl⟩
      rw [hg] at hk ⊢
      have K0 := Aside0.mk hk
      have HG := Aside0.mk hg
      clear hk hg
      have c0 := cell0 0 K0.out rfl; have c1 := cell0 1 K0.out rfl; have c2 := cell0 2 K0.out rfl; have c3 := cell0 3 K0.out rfl; have c4 := cell0 4 K0.out rfl; have c5 := cell0 5 K0.out rfl
      go_region_held3 (fun w' => Below W0.heap.size W0 w' ∧ w'.cell? ⟨g, 0, none⟩ = some (.slice A la.length ca) ∧ w'.cell? ⟨g, 1, none⟩ = some (.slice B lb.length cb) ∧ w'.cell? ⟨g, 2, none⟩ = some (.int .i64 o) ∧ w'.cell? ⟨g, 3, none⟩ = some (.int .i64 f) ∧ w'.cell? ⟨g, 4, none⟩ = some (.int .i64 r) ∧ w'.cell? ⟨g, 5, none⟩ = some (.int .i64 c))
    (first | (exact ⟨below_drew1 (Below.refl _ _), (World.cell?_drew _ _).trans c0, (World.cell?_drew _ _).trans c1, (World.cell?_drew _ _).trans c2, (World.cell?_drew _ _).trans c3, (World.cell?_drew _ _).trans c4, (World.cell?_drew _ _).trans c5⟩) | (have hH := ‹Below _ _ _ ∧ _›; exact ⟨below_step hH.1 ‹Below _ _ _›, cell_on ‹Below _ _ _› hH.2.1, cell_on ‹Below _ _ _› hH.2.2.1, cell_on ‹Below _ _ _› hH.2.2.2.1, cell_on ‹Below _ _ _› hH.2.2.2.2.1, cell_on ‹Below _ _ _› hH.2.2.2.2.2.1, cell_on ‹Below _ _ _› hH.2.2.2.2.2.2⟩) | (have hH := ‹Below _ _ _ ∧ _›; exact ⟨pw_below_drewN hH.1 _, hH.2.1, hH.2.2.1, hH.2.2.2.1, hH.2.2.2.2.1, hH.2.2.2.2.2.1, hH.2.2.2.2.2.2⟩))
    ((first
    | (go_at_call 31; (with_reducible refine (alive11_any _).mono ?_); rintro e w4 ⟨rfl, hb⟩)
    | (go_at_call 45; (with_reducible refine (chk_any _ _ _ _ _ _ _ _ _ _ _ (Kd.C_below HA.out (below_step HW0.out (‹Below W0.heap.size W0 _ ∧ _›).1)) HCA.out (Kd.C_below HB.out (below_step HW0.out (‹Below W0.heap.size W0 _ ∧ _›).1)) HCB.out HL.out).mono ?_); rintro e w4 ⟨rfl, hb⟩)
    | (go_at_call 46; (with_reducible refine (rchk_any _ _ _ _ _ _ _ _ _ _ _ (Kd.C_below HA.out (below_step HW0.out (‹Below W0.heap.size W0 _ ∧ _›).1)) HCA.out (Kd.C_below HB.out (below_step HW0.out (‹Below W0.heap.size W0 _ ∧ _›).1)) HCB.out HL.out).mono ?_); rintro e w4 ⟨rfl, hb⟩)))
      all_goals (go_wp2_with fail; go_ret; exact ⟨rfl, below_step HW0.out (‹Below W0.heap.size W0 _ ∧ _›).1⟩)
end Go.Proofs.Ytpfgjagpaddcpaa.Own
