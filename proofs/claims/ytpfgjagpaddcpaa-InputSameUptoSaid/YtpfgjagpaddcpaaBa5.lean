import Derived.Test.YtpfgjagpaddcpaaBa2
import Derived.Deep.Slices
import Derived.Laws.Cover3
import Derived.Deep.Heap
import Derived.Deep.RegionWith
import Derived.Sort.AtCall
/-! Texts that this law leans on, put together by a program of this session: C1 C2 C3 C4 Xa1 C6 C7 C5 C8 C9. -/
/-! Which points are far; IndexFunc and ContainsFunc over it, of a ring. -/
namespace Go.Proofs.Ytpfgjagpaddcpaa.Own
open Go.RowKit Go.Proofs.YtpfgjagpaddcpaaW.PrintWords Go.Proofs.YtpfgjagpaddcpaaW.PrintLast Go.Proofs.YtpfgjagpaddcpaaW.PrintMore
open Go.Proofs.Ytpfgjagpaddcpaa.X
set_option linter.unusedVariables false
set_option linter.unusedSimpArgs false

def nearC (x y : Int) : Bool := decide (-67108864 ≤ x ∧ x ≤ 67108864 ∧ -67108864 ≤ y ∧ y ≤ 67108864)

theorem far_f (x y : Int) : input_far.f x y = some (!nearC x y) := by
  unfold input_far.f nearC
  by_cases h1 : x < -67108864 <;> by_cases h2 : x > 67108864 <;> by_cases h3 : y < -67108864 <;> by_cases h4 : y > 67108864 <;> simp [h1, h2, h3, h4] <;> omega

theorem far_any (x y : Int) (w : World) : Calls Try.prog 75 #[ptV x y] w fun e w' => e = .returned (.bool (!nearC x y)) ∧ Below w.heap.size w w' :=
  input_far.calls _ _ _ w (far_f x y)

def allNear (l : List S23) : Bool := l.all fun p => nearC p.f0 p.f1

theorem allNear_false (l : List S23) (x : Int) (h0 : 0 ≤ x) (hlt : x < l.length) (h : nearC (rd_T23 l x).f0 (rd_T23 l x).f1 = false) : allNear l = false := by
  unfold allNear
  rw [List.all_eq_false]
  have hn : x.toNat < l.length := by omega
  refine ⟨rd_T23 l x, ?_, by simp [h]⟩
  rw [show rd_T23 l x = l[x.toNat] by simp [rd_T23, List.getD, hn]]
  exact List.getElem_mem hn

theorem allNear_true (l : List S23) (h : ∀ j : Nat, (j : Int) < l.length → nearC (l.getD j z23).f0 (l.getD j z23).f1 = true) : allNear l = true := by
  unfold allNear
  rw [List.all_eq_true]
  intro p hp
  obtain ⟨j, hj, rfl⟩ := List.mem_iff_getElem.1 hp
  have := h j (by omega)
  simpa [List.getD, hj] using this

set_option maxHeartbeats 1000000 in
theorem indexF_any (A : Option Addr) (c : Nat) (l : List S23) (w : World) (hr : Kd.C k23 w A l.length l) (hc : l.length ≤ c) (hm : l.length ≤ 9223372036854775807) :
    Calls Try.prog 80 #[.slice A l.length c, .func (.func 75) #[] #[]] w fun e w' => (∃ r : Int, e = .returned (.int .i64 r) ∧ (0 ≤ r ↔ allNear l = false)) ∧ Below w.heap.size w w' := by
  have hu23 := Try.underlying23
  have HR := Aside0.mk hr
  clear hr
  go_enter Try.func80, Try.ntmps80
  go_wp2_with fail
  go_loopw [8] (fun i wr => ∃ x : Int, i = .int .i64 x ∧ Aside0 (0 ≤ x ∧ x ≤ l.length ∧ (∀ j : Nat, (j : Int) < x → nearC (l.getD j z23).f0 (l.getD j z23).f1 = true)) ∧ Aside0 (Below w.heap.size w wr)) (fun i _ => l.length - (intOf i).toNat)
  case atStart => exact ⟨0, rfl, ⟨by omega, by omega, fun j hj => by omega⟩, ⟨Below.refl _ _⟩⟩
  case round =>
    obtain ⟨x, rfl, HX, HB⟩ := hrel
    obtain ⟨h0, h1, h2⟩ := HX.out
    have HA := Aside0.mk h2
    clear HX h2
    by_cases hlt : x < (l.length : Int)
    · have c3b0 : decide (x < (l.length : Int)) = true := decide_eq_true hlt
      obtain ⟨ad, e1, hx0, hx1⟩ := at_T23 HR.out x h0 hlt
      cases e1
      replace hx0 := (HB.out.cell (World.block_lt_of_cell? w _ hx0)).trans hx0
      replace hx1 := (HB.out.cell (World.block_lt_of_cell? w _ hx1)).trans hx1
      have p1 := eq_true h0
      have p2 := eq_true hlt
      go_wp2_with fail
      refine (far_any _ _ _).mono ?_
      rintro e w1 ⟨rfl, hb1⟩
      by_cases hq : nearC (rd_T23 l x).f0 (rd_T23 l x).f1 = true
      · simp only [hq, Bool.not_true]
        have HQ := Aside0.mk hq
        clear hq
        go_wp2_with fail
        go_roundw
        case rel => 
          refine ⟨x + 1, by go_num, ⟨by omega, by omega, fun j hj => ?_⟩, ⟨HB.out.trans (hb1.mono HB.out.size)⟩⟩
          by_cases hj2 : (j : Int) < x
          · exact HA.out j hj2
          · have : j = x.toNat := by omega
            rw [this]
            exact HQ.out
        case measure => simp [intOf]; omega
      · have hq' : nearC (rd_T23 l x).f0 (rd_T23 l x).f1 = false := by simpa using hq
        simp only [hq', Bool.not_false]
        have HQ := Aside0.mk hq'
        clear hq hq'
        go_wp2_with fail
        go_ret
        exact ⟨⟨x, rfl, ⟨fun _ => allNear_false l x h0 hlt HQ.out, fun _ => h0⟩⟩, HB.out.trans (hb1.mono HB.out.size)⟩
    · have c3b0 : decide (x < (l.length : Int)) = false := decide_eq_false hlt
      go_wp2_with fail
      go_ret
      refine ⟨⟨-1, rfl, ⟨fun h => by omega, fun h => ?_⟩⟩, HB.out⟩
      rw [allNear_true l (fun j hj => HA.out j (by omega))] at h
      cases h

set_option maxHeartbeats 1000000 in
theorem containsF_any (A : Option Addr) (c : Nat) (l : List S23) (w : World) (hr : Kd.C k23 w A l.length l) (hc : l.length ≤ c) (hm : l.length ≤ 9223372036854775807) :
    Calls Try.prog 74 #[.slice A l.length c, .func (.func 75) #[] #[]] w fun e w' => e = .returned (.bool (!allNear l)) ∧ Below w.heap.size w w' := by
  go_enter Try.func74, Try.ntmps74
  go_wp2_with fail
  refine (indexF_any A c l _ hr hc hm).mono ?_
  rintro e w1 ⟨⟨r, rfl, hq⟩, hb⟩
  by_cases h : 0 ≤ r
  · have h2 := Aside0.mk (hq.1 h)
    have hd : decide (0 ≤ r) = true := decide_eq_true h
    clear hq h
    go_wp2_with fail
    go_ret
    exact ⟨by rw [h2.out]; rfl, hb⟩
  · have h2 := Aside0.mk (show allNear l = true by cases hx : allNear l with | true => rfl | false => exact absurd (hq.2 hx) h)
    have hd : decide (0 ≤ r) = false := decide_eq_false h
    clear hq h
    go_wp2_with fail
    go_ret
    exact ⟨by rw [h2.out]; rfl, hb⟩
end Go.Proofs.Ytpfgjagpaddcpaa.Own

/-! Why rings may not be. -/
namespace Go.Proofs.Ytpfgjagpaddcpaa.Own
open Go.RowKit Go.Proofs.YtpfgjagpaddcpaaW.PrintWords Go.Proofs.YtpfgjagpaddcpaaW.PrintLast Go.Proofs.YtpfgjagpaddcpaaW.PrintMore
open Go.Proofs.Ytpfgjagpaddcpaa.X
set_option linter.unusedVariables false
set_option linter.unusedSimpArgs false

def ringsB : List (List S23) → Int
  | [] => 0
  | r :: rs => if r.length < 3 then 114 else if allNear r = false then 115 else ringsB rs

theorem ringsB_drop (ls : List (List S23)) (k : Nat) (h : k < ls.length) : ringsB (ls.drop k) = if (ls.getD k []).length < 3 then 114 else if allNear (ls.getD k []) = false then 115 else ringsB (ls.drop (k + 1)) := by
  rw [List.drop_eq_getElem_cons h]
  simp only [ringsB, List.getD_eq_getElem?_getD, List.getElem?_eq_getElem h, Option.getD_some]

theorem rings_any (A : Option Addr) (c : Nat) (ls : List (List S23)) (w : World) (hr : Kd.C (Kd.slice 23 k23) w A ls.length ls) (hc : ls.length ≤ c) (hm : ls.length ≤ 9223372036854775807) (hm2 : ∀ r ∈ ls, r.length ≤ 9223372036854775807) :
    Calls Try.prog 63 #[.slice A ls.length c] w fun e w' => e = .returned (.int .i64 (ringsB ls)) ∧ Below w.heap.size w w' := by
  have HR := Aside0.mk hr
  clear hr
  go_enter Try.func63, Try.ntmps63
  go_wp2_with fail
  go_loopw [7] (fun i wr => ∃ x : Int, i = .int .i64 x ∧ Aside0 (0 ≤ x ∧ x ≤ ls.length ∧ ringsB ls = ringsB (ls.drop x.toNat)) ∧ Aside0 (Below w.heap.size w wr)) (fun i _ => ls.length - (intOf i).toNat)
  case atStart => exact ⟨0, rfl, ⟨by omega, by omega, rfl⟩, ⟨Below.refl _ _⟩⟩
  case round =>
    obtain ⟨x, rfl, HX, HB⟩ := hrel
    obtain ⟨h0, h1, h2⟩ := HX.out
    have HA := Aside0.mk h2
    clear HX h2
    by_cases hlt : x < (ls.length : Int)
    · have c3b0 : decide (x < (ls.length : Int)) = true := decide_eq_true hlt
      obtain ⟨ad, A0, c0, e1, hx0, hc0, hC0⟩ := at_L2 HR.out x h0 hlt
      cases e1
      replace hx0 := (HB.out.cell (World.block_lt_of_cell? w _ hx0)).trans hx0
      have hml := hm2 (rd_L2 ls x) (by
        unfold rd_L2
        rw [List.getD_eq_getElem?_getD, List.getElem?_eq_getElem (by omega)]
        exact List.getElem_mem _)
      have HD := Aside0.mk (show ringsB (ls.drop x.toNat) = if (rd_L2 ls x).length < 3 then 114 else if allNear (rd_L2 ls x) = false then 115 else ringsB (ls.drop (x.toNat + 1)) from ringsB_drop ls x.toNat (by omega))
      obtain ⟨r, hr⟩ : ∃ r, rd_L2 ls x = r := ⟨_, rfl⟩
      rw [hr] at hx0 hc0 hC0 hml HD
      have HCr := Aside0.mk (Kd.C_below hC0 HB.out)
      clear hC0 hr
      have p1 := eq_true h0
      have p2 := eq_true hlt
      by_cases h3 : (r.length : Int) < 3
      · have d3 : decide ((r.length : Int) < 3) = true := decide_eq_true h3
        have HE := Aside0.mk (show ringsB ls = 114 by rw [HA.out, HD.out, if_pos (by omega)])
        have h3' : r.length < 3 := by omega
        go_wp2_with fail
        go_ret
        exact ⟨by rw [HE.out]; rfl, HB.out⟩
      · have d3 : decide ((r.length : Int) < 3) = false := decide_eq_false h3
        have h3' : ¬ r.length < 3 := by omega
        go_wp2_with fail
        refine (containsF_any A0 c0 r _ HCr.out hc0 hml).mono ?_
        rintro e w1 ⟨rfl, hb1⟩
        cases hn : allNear r with
        | false =>
          have HE := Aside0.mk (show ringsB ls = 115 by rw [HA.out, HD.out, if_neg h3', if_pos hn])
          go_wp2_with fail
          go_ret
          exact ⟨by rw [HE.out]; rfl, HB.out.trans (hb1.mono HB.out.size)⟩
        | true =>
          have HE := Aside0.mk (show ringsB ls = ringsB (ls.drop (x.toNat + 1)) by rw [HA.out, HD.out, if_neg h3', if_neg (by rw [hn]; simp)])
          go_wp2_with fail
          go_roundw
          case rel => exact ⟨x + 1, by go_num, ⟨by omega, by omega, by rw [show (x + 1).toNat = x.toNat + 1 by omega]; exact HE.out⟩, ⟨HB.out.trans (hb1.mono HB.out.size)⟩⟩
          case measure => simp [intOf]; omega
    · have c3b0 : decide (x < (ls.length : Int)) = false := decide_eq_false hlt
      have HE := Aside0.mk (show ringsB ls = 0 by rw [HA.out, List.drop_eq_nil_of_le (by omega)]; rfl)
      go_wp2_with fail
      go_ret
      exact ⟨by rw [HE.out]; rfl, HB.out⟩
end Go.Proofs.Ytpfgjagpaddcpaa.Own

/-! Slice headers; slices.Grow and slices.Concat of rings. -/
namespace Go.Proofs.Ytpfgjagpaddcpaa.Own
open Go.RowKit Go.Proofs.YtpfgjagpaddcpaaW.PrintWords Go.Proofs.YtpfgjagpaddcpaaW.PrintLast Go.Proofs.YtpfgjagpaddcpaaW.PrintMore
open Go.Proofs.Ytpfgjagpaddcpaa.X
set_option linter.unusedVariables false
set_option linter.unusedSimpArgs false

/-- A ring's slice header. -/
structure Hdr where
  A : Option Addr
  n : Nat
  c : Nat
instance : Inhabited Hdr := ⟨⟨none, 0, 0⟩⟩
def hdr0 : Hdr := ⟨none, 0, 0⟩
def encH (h : Hdr) : Value := .slice h.A h.n h.c
theorem encH_one (h : Hdr) : (encH h).oneCell' = true := rfl

/-- The headers of rings. -/
def HdrsOf (w : World) (hs : List Hdr) (ls : List (List S23)) : Prop :=
  hs.length = ls.length ∧ ∀ i, i < ls.length → (hs.getD i hdr0).n = (ls.getD i []).length ∧ (ls.getD i []).length ≤ (hs.getD i hdr0).c ∧ Kd.C k23 w (hs.getD i hdr0).A (ls.getD i []).length (ls.getD i [])

theorem hdrs_of {w : World} {A : Option Addr} {ls : List (List S23)} (h : Kd.C (Kd.slice 23 k23) w A ls.length ls) : ∃ hs : List Hdr, ReadsOf encH hdr0 w A ls.length hs ∧ HdrsOf w hs ls := by
  have hl := h.2.1
  have hx : ∀ i, i < ls.length → ∃ hd : Hdr, (∀ ad, A = some ad → w.cell? (ad.add i) = some (encH hd)) ∧ hd.n = (ls.getD i []).length ∧ (ls.getD i []).length ≤ hd.c ∧ Kd.C k23 w hd.A (ls.getD i []).length (ls.getD i []) := by
    intro i hi
    obtain ⟨ad, A0, c0, e1, hx0, hc0, hC0⟩ := at_L2 h (i : Int) (by omega) (by omega)
    simp only [rd_L2, Int.toNat_natCast] at hx0 hc0 hC0
    exact ⟨⟨A0, _, c0⟩, fun ad' e => by rw [e1] at e; cases e; exact hx0, rfl, hc0, hC0⟩
  obtain ⟨f, hf⟩ := Go.Deep.choose_lt (α := Hdr) (n := ls.length) (p := fun i hd => (∀ ad, A = some ad → w.cell? (ad.add i) = some (encH hd)) ∧ hd.n = (ls.getD i []).length ∧ (ls.getD i []).length ≤ hd.c ∧ Kd.C k23 w hd.A (ls.getD i []).length (ls.getD i [])) hx
  have hg : ∀ i, i < ls.length → ((List.range ls.length).map f).getD i hdr0 = f i := by
    intro i hi
    simp [List.getD_eq_getElem?_getD, hi]
  refine ⟨(List.range ls.length).map f, ⟨by simp, hl, fun hn => ?_⟩, by simp, fun i hi => ?_⟩
  · obtain ⟨ad, A0, c0, e1, _⟩ := at_L2 h (0 : Int) (by omega) (by omega)
    refine ⟨ad, e1, fun j hj => ?_⟩
    rw [hg j hj]
    exact (hf j hj).1 ad e1
  · rw [hg i hi]
    exact (hf i hi).2

theorem HdrsOf.below {w w' : World} {hs : List Hdr} {ls : List (List S23)} (h : HdrsOf w hs ls) (hb : Below w.heap.size w w') : HdrsOf w' hs ls :=
  ⟨h.1, fun i hi => ⟨(h.2 i hi).1, (h.2 i hi).2.1, Kd.C_below (h.2 i hi).2.2 hb⟩⟩

theorem HdrsOf.append {w : World} {hs hs' : List Hdr} {ls ls' : List (List S23)} (h : HdrsOf w hs ls) (h' : HdrsOf w hs' ls') : HdrsOf w (hs ++ hs') (ls ++ ls') := by
  refine ⟨by simp [h.1, h'.1], fun i hi => ?_⟩
  by_cases hlt : i < ls.length
  · have e1 : (hs ++ hs').getD i hdr0 = hs.getD i hdr0 := by simp only [List.getD_eq_getElem?_getD]; rw [List.getElem?_append_left (by rw [h.1]; exact hlt)]
    have e2 : (ls ++ ls').getD i [] = ls.getD i [] := by simp only [List.getD_eq_getElem?_getD]; rw [List.getElem?_append_left hlt]
    rw [e1, e2]
    exact h.2 i hlt
  · have e1 : (hs ++ hs').getD i hdr0 = hs'.getD (i - ls.length) hdr0 := by simp only [List.getD_eq_getElem?_getD]; rw [List.getElem?_append_right (by rw [h.1]; omega), h.1]
    have e2 : (ls ++ ls').getD i [] = ls'.getD (i - ls.length) [] := by simp only [List.getD_eq_getElem?_getD]; rw [List.getElem?_append_right (by omega)]
    rw [e1, e2]
    exact h'.2 _ (by rw [List.length_append] at hi; omega)

/-- Headers in a row of one's own, read as rings. -/
theorem hdrs_row {w : World} {base : Nat} {v : Value} {hs : List Hdr} {ls : List (List S23)} (h : w.ownsRow base 47 1 v hs.length (encs encH hs)) (hh : HdrsOf w hs ls) :
    ∃ A c, v = .slice A ls.length c ∧ ls.length ≤ c ∧ Kd.C (Kd.slice 23 k23) w A ls.length ls := by
  have hl := hh.1
  obtain ⟨h1, h2⟩ := h
  rcases h2 with ⟨he, h0⟩ | ⟨g, cap, cur, he, hb, hg, hnc, hcm, hcs, ht⟩
  · have : ls = [] := List.length_eq_zero_iff.1 (by omega)
    subst this
    exact ⟨none, 0, he, Nat.le_refl _, rfl, by decide, fun h => absurd h (Nat.lt_irrefl _)⟩
  · have hm : ls.length ≤ 9223372036854775807 := by
      have : cap ≤ 9223372036854775807 := by simpa [maxLen] using hcm
      omega
    refine ⟨_, cap, by rw [← hl]; exact he, by omega, rfl, hm, fun _ => ⟨_, rfl, fun j p hj => ?_⟩⟩
    obtain ⟨hj1, hj2⟩ := List.getElem?_eq_some_iff.1 hj
    have hp : ls.getD j [] = p := by rw [List.getD_eq_getElem?_getD, hj]; rfl
    obtain ⟨k1, k2, k3⟩ := hh.2 j hj1
    rw [hp] at k1 k2 k3
    have hc : w.cell? ((⟨g, 0, none⟩ : Addr).add j) = some (encH (hs.getD j hdr0)) := by
      refine World.ownsRow.cells (v := v) (n := hs.length) (xs := encs encH hs) (size := 1) (base := base) (e := 47) ⟨h1, Or.inr ⟨g, cap, cur, he, hb, hg, hnc, hcm, hcs, ht⟩⟩ (by rw [he]; rfl) j _ ?_
      exact encs_get hs j (by omega)
    refine ⟨[encH (hs.getD j hdr0)], rfl, ⟨(hs.getD j hdr0).A, (hs.getD j hdr0).c, by rw [encH, k1], k2, k3⟩, fun i u hu => ?_⟩
    have hi : i = 0 := by
      have := (List.getElem?_eq_some_iff.1 hu).1
      simp at this
      exact this
    subst hi
    simp at hu
    have hz : j * (Kd.slice 23 k23).sz + 0 = j := by show j * 1 + 0 = j; omega
    rw [← hu, hz]
    simpa [List.getD_eq_getElem?_getD] using hc

theorem info47' : (Try.prog.info? 47).map (fun i => (i.zero, i.size, i.bytes)) = some (some (.slice none 0 0), 1, 24) := by kernel_rfl

/-- slices.Grow of no rings: room for n. -/
theorem grow_any (n : Nat) (hn : n ≤ 1000000) (w : World) :
    Calls Try.prog 73 #[.slice none 0 0, .int .i64 n] w fun e w' => (∃ v, e = .returned v ∧ w'.ownsRow w.heap.size 47 1 v 0 []) ∧ Below w.heap.size w w' := by
  have hu35 := Try.underlying35
  have HB := Aside0.mk (Below.refl w.heap.size w)
  have hw1 : IntKind.i64.wrap ((n : Int) - 0) = n := by rw [Int.sub_zero]; exact IntWalk.i64_in _ (by omega)
  by_cases h0 : 0 < (n : Int)
  · have d0 : decide (0 < (n : Int)) = true := decide_eq_true h0
    have d1 : decide ((n : Int) < 0) = false := decide_eq_false (by omega)
    go_enter Try.func73, Try.ntmps73
    go_wp2_with (first | ((with_reducible refine gate_builtin (b := .append) (xs := #[.tmp 20, .tmp 21]) rfl ?_); at_builtin; refine Kd.R_append_zeros (Kd.slice 23 k23) (w0 := w) w.heap.size rfl (.tmp 20) (.tmp 21) 35 3 47 (.slice none 0 0) 24 rfl Try.underlying35 Try.underlying3 info47' rfl (by decide) (by omega) (.slice none 0 0) ([] : List (List S23)) ([] : List S23) (n : Int) (fun _ => True) rfl rfl ?aZ (fun _ _ => trivial) (Kd.R_nil _ _ _ _ _) (by omega) HB.out (Nat.le_refl _) ?aL ?_; (case aZ => exact ⟨_, rfl, Kd.R_nil _ _ _ _ _⟩); (case aL => simp only [List.length_nil]; omega); intro v1 w1 ho hb hg hat; obtain ⟨A1, c1, hv1⟩ := Kd.R_slice ho; subst hv1; have HO := Aside0.mk (Kd.R_take ho (Nat.zero_le _)); have HB1 := Aside0.mk hb; clear ho hb hg hat))
    go_ret
    obtain ⟨_, inner, ho, _⟩ := HO.out
    have hi : inner = [] := List.length_eq_zero_iff.1 (by have := ho.1; simpa using this)
    rw [hi] at ho
    exact ⟨⟨_, rfl, ho⟩, HB1.out⟩
  · obtain rfl : n = 0 := by omega
    go_enter Try.func73, Try.ntmps73
    go_wp2_with fail
    go_ret
    exact ⟨⟨_, rfl, by simp, Or.inl ⟨rfl, rfl⟩⟩, HB.out⟩

set_option maxRecDepth 100000 in
/-- slices.Concat of two rows of rings. -/
theorem concat_any (gb : Nat) (c : Nat) (A B : Option Addr) (ca cb : Nat) (la lb : List (List S23)) (w : World) (hc0 : 2 ≤ c) (h0 : w.cell? ⟨gb, 0, none⟩ = some (.slice A la.length ca)) (h1 : w.cell? ⟨gb, 1, none⟩ = some (.slice B lb.length cb))
    (hA : Kd.C (Kd.slice 23 k23) w A la.length la) (hB : Kd.C (Kd.slice 23 k23) w B lb.length lb) (hl : la.length + lb.length ≤ 1000000) :
    Calls Try.prog 62 #[.slice (some ⟨gb, 0, none⟩) 2 c] w fun e w' => (∃ R c', e = .returned (.slice R (la ++ lb).length c') ∧ (la ++ lb).length ≤ c' ∧ Kd.C (Kd.slice 23 k23) w' R (la ++ lb).length (la ++ lb)) ∧ Below w.heap.size w w' := by
  obtain ⟨ha, hra, hha⟩ := hdrs_of hA
  obtain ⟨hb, hrb, hhb⟩ := hdrs_of hB
  have HA := Aside0.mk (And.intro hra hha)
  have HBb := Aside0.mk (And.intro hrb hhb)
  have hla := hha.1
  have hlb := hhb.1
  clear hra hha hrb hhb hA hB
  have hu35 := Try.underlying35
  have hw0 : IntKind.i64.wrap (0 + (la.length : Int)) = la.length := by rw [Int.zero_add]; exact IntWalk.i64_in _ (by omega)
  have hw1 : IntKind.i64.wrap ((la.length : Int) + (lb.length : Int)) = (la.length : Int) + (lb.length : Int) := IntWalk.i64_in _ (by omega)
  have d1 : decide ((la.length : Int) < 0) = false := decide_eq_false (by omega)
  have d2 : decide ((la.length : Int) + (lb.length : Int) < 0) = false := decide_eq_false (by omega)
  go_enter Try.func62, Try.ntmps62
  go_wp2_with fail
  go_loopw [3, 11] (fun s i wr => w = wr ∧ ((i = .int .i64 0 ∧ s = .int .i64 0) ∨ (i = .int .i64 1 ∧ s = .int .i64 la.length) ∨ (i = .int .i64 2 ∧ s = .int .i64 ((la.length : Int) + (lb.length : Int))))) (fun _ i _ => 3 - (intOf i).toNat)
  case atStart => exact ⟨rfl, Or.inl ⟨rfl, rfl⟩⟩
  case round =>
    obtain ⟨rfl, ⟨rfl, rfl⟩ | ⟨rfl, rfl⟩ | ⟨rfl, rfl⟩⟩ := hrel
    · go_wp2_with fail
      go_roundw
      case rel => exact ⟨by first | rfl | trivial, Or.inr (Or.inl ⟨by go_num, by go_num⟩)⟩
      case measure => simp [intOf]
    · go_wp2_with fail
      go_roundw
      case rel => exact ⟨by first | rfl | trivial, Or.inr (Or.inr ⟨by go_num, by go_num⟩)⟩
      case measure => simp [intOf]
    · go_wp2_with fail
      have hg := grow_any (la.length + lb.length) hl w
      rw [Int.natCast_add] at hg
      refine hg.mono ?_
      clear hg
      rintro e w1 ⟨⟨v, rfl, hown⟩, hb1⟩
      have HO := Aside0.mk hown
      have HB1 := Aside0.mk hb1
      have z0 := cell_on hb1 h0
      have z1 := cell_on hb1 h1
      clear hown hb1
      go_wp2_with fail
      go_loopw [6, 27] (fun v i wq => Aside0 (Below w.heap.size w wq) ∧ ((i = .int .i64 0 ∧ Aside0 (wq.ownsRow w.heap.size 47 1 v 0 [])) ∨ (i = .int .i64 1 ∧ Aside0 (wq.ownsRow w.heap.size 47 1 v ha.length (encs encH ha))) ∨ (i = .int .i64 2 ∧ Aside0 (wq.ownsRow w.heap.size 47 1 v (ha ++ hb).length (encs encH (ha ++ hb)))))) (fun _ i _ => 3 - (intOf i).toNat)
      case atStart => exact ⟨HB1, Or.inl ⟨rfl, HO⟩⟩
      case round =>
        clear z0 z1 HB1 HO
        obtain ⟨HBq, hst⟩ := hrel
        have z0 := cell_on HBq.out h0
        have z1 := cell_on HBq.out h1
        rcases hst with ⟨rfl, HO⟩ | ⟨rfl, HO⟩ | ⟨rfl, HO⟩
        · have HR := Aside0.mk (HA.out.1.below HBq.out)
          go_wp2_with (first | ((with_reducible refine gate_builtin (b := .append) (xs := #[.tmp 31, .tmp 32]) rfl ?_); at_builtin; refine print_append_row_of (w0 := w) encH hdr0 w.heap.size rfl (.tmp 31) (.tmp 32) 35 47 (.slice none 0 0) 24 rfl Try.underlying35 info47' rfl (by omega) encH_one _ ([] : List Hdr) ha A la.length ca rfl rfl HO.out HR.out HBq.out HBq.out.size (by simp only [List.length_nil]; omega) ?_; intro v1 w2 ho hb2 hg hat))
          go_roundw
          case rel => exact ⟨⟨hb2⟩, Or.inr (Or.inl ⟨by go_num, ⟨by simpa using ho⟩⟩)⟩
          case measure => simp [intOf]
        · have HR := Aside0.mk (HBb.out.1.below HBq.out)
          go_wp2_with (first | ((with_reducible refine gate_builtin (b := .append) (xs := #[.tmp 31, .tmp 32]) rfl ?_); at_builtin; refine print_append_row_of (w0 := w) encH hdr0 w.heap.size rfl (.tmp 31) (.tmp 32) 35 47 (.slice none 0 0) 24 rfl Try.underlying35 info47' rfl (by omega) encH_one _ ha hb B lb.length cb rfl rfl HO.out HR.out HBq.out HBq.out.size (by omega) ?_; intro v1 w2 ho hb2 hg hat))
          go_roundw
          case rel => exact ⟨⟨hb2⟩, Or.inr (Or.inr ⟨by go_num, ⟨ho⟩⟩)⟩
          case measure => simp [intOf]
        · go_wp2_with fail
          go_ret
          obtain ⟨R, c', hv, hcc, hCC⟩ := hdrs_row HO.out ((HA.out.2.below HBq.out).append (HBb.out.2.below HBq.out))
          subst hv
          exact ⟨⟨R, c', rfl, hcc, hCC⟩, HBq.out⟩
end Go.Proofs.Ytpfgjagpaddcpaa.Own

/-! input.Check. -/
namespace Go.Proofs.Ytpfgjagpaddcpaa.Own
open Go.RowKit Go.Proofs.YtpfgjagpaddcpaaW.PrintWords Go.Proofs.YtpfgjagpaddcpaaW.PrintLast Go.Proofs.YtpfgjagpaddcpaaW.PrintMore
open Go.Proofs.Ytpfgjagpaddcpaa.X
set_option linter.unusedVariables false
set_option linter.unusedSimpArgs false

/-- How many points, reckoned on till they are too many. -/
def cntB : Int → List (List S23) → Int
  | n, [] => n
  | n, r :: rs => if 256 < n + mn r.length 257 then n + mn r.length 257 else cntB (n + mn r.length 257) rs

theorem cntB_drop (n : Int) (ls : List (List S23)) (k : Nat) (h : k < ls.length) : cntB n (ls.drop k) = if 256 < n + mn (ls.getD k []).length 257 then n + mn (ls.getD k []).length 257 else cntB (n + mn (ls.getD k []).length 257) (ls.drop (k + 1)) := by
  rw [List.drop_eq_getElem_cons h]
  simp only [cntB, List.getD_eq_getElem?_getD, List.getElem?_eq_getElem h, Option.getD_some]

def checkB (la lb : List (List S23)) (op fill rung cap : Int) : Int :=
  if op < 0 ∨ 3 < op then 110 else if fill < 0 ∨ 1 < fill then 111 else if rung < 0 ∨ 28 < rung then 112 else if cap < 1 ∨ 1024 < cap then 113
  else if cntB 0 (la ++ lb) < 1 ∨ 256 < cntB 0 (la ++ lb) then 116 else if ringsB la = 0 then ringsB lb else ringsB la

abbrev jobV (A B : Option Addr) (na nb ca cb : Nat) (op fill rung cap : Int) : Value := .agg #[.slice A na ca, .slice B nb cb, .int .i64 op, .int .i64 fill, .int .i64 rung, .int .i64 cap]

set_option maxRecDepth 100000 in
set_option maxHeartbeats 8000000 in
theorem check_any (A B : Option Addr) (ca cb : Nat) (la lb : List (List S23)) (op fill rung cap : Int) (w : World) (hA : Kd.C (Kd.slice 23 k23) w A la.length la) (hB : Kd.C (Kd.slice 23 k23) w B lb.length lb) (hca : la.length ≤ ca) (hcb : lb.length ≤ cb)
    (hl : la.length + lb.length ≤ 1000000) (hma : ∀ r ∈ la, r.length ≤ 9223372036854775807) (hmb : ∀ r ∈ lb, r.length ≤ 9223372036854775807) :
    Calls Try.prog 45 #[jobV A B la.length lb.length ca cb op fill rung cap] w fun e w' => e = .returned (.int .i64 (checkB la lb op fill rung cap)) ∧ Below w.heap.size w w' := by
  have HA := Aside0.mk hA
  have HB := Aside0.mk hB
  clear hA hB
  have hu41 := Try.underlying41
  go_enter Try.func45, Try.ntmps45
  go_wp2_with fail
  have kb := blk_new w (.cells #[.slice A la.length ca, .slice B lb.length cb, .int .i64 op, .int .i64 fill, .int .i64 rung, .int .i64 cap] 41)
  have kc := blk_new (w.alloc (.cells #[.slice A la.length ca, .slice B lb.length cb, .int .i64 op, .int .i64 fill, .int .i64 rung, .int .i64 cap] 41)) (.cells #[.slice A la.length ca, .slice B lb.length cb] 35)
  have kb2 := (Below.heap_alloc (w.alloc (.cells #[.slice A la.length ca, .slice B lb.length cb, .int .i64 op, .int .i64 fill, .int .i64 rung, .int .i64 cap] 41)) (.cells #[.slice A la.length ca, .slice B lb.length cb] 35) w.heap.size (by simp)).trans kb
  rw [World.size_alloc] at kc
  have hW := below_alloc (below_alloc (Below.refl w.heap.size w) (.cells #[.slice A la.length ca, .slice B lb.length cb, .int .i64 op, .int .i64 fill, .int .i64 rung, .int .i64 cap] 41)) (.cells #[.slice A la.length ca, .slice B lb.length cb] 35)
  have hcon := concat_any (w.heap.size + 1) 2 A B ca cb la lb _ (Nat.le_refl _) (cell0 0 kc rfl) (cell0 1 kc rfl) (Kd.C_below HA.out hW) (Kd.C_below HB.out hW) hl
  refine hcon.mono ?_
  clear hcon
  rintro e w2 ⟨⟨R, c', rfl, hcc, hCC⟩, hb2⟩
  have kj := Aside0.mk (blk_below kb2 hb2)
  have HW := Aside0.mk (below_step hW hb2)
  have HC := Aside0.mk hCC
  have HA2 := Aside0.mk (Kd.C_below HA.out HW.out)
  have HB2 := Aside0.mk (Kd.C_below HB.out HW.out)
  clear kb kc kb2 hW hb2 hCC HA HB
  obtain ⟨ls, hls⟩ : ∃ ls, la ++ lb = ls := ⟨_, rfl⟩
  have HLEN := Aside0.mk (show ls.length = la.length + lb.length by rw [← hls, List.length_append])
  have hlen1 : ls.length ≤ 1000000 := by rw [HLEN.out]; exact hl
  have hmr : ∀ r ∈ ls, r.length ≤ 9223372036854775807 := by
    intro r hr
    rw [← hls] at hr
    rcases List.mem_append.1 hr with h | h
    · exact hma r h
    · exact hmb r h
  rw [hls] at HC hcc ⊢
  have HCH := Aside0.mk (show checkB la lb op fill rung cap = if op < 0 ∨ 3 < op then 110 else if fill < 0 ∨ 1 < fill then 111 else if rung < 0 ∨ 28 < rung then 112 else if cap < 1 ∨ 1024 < cap then 113
    else if cntB 0 ls < 1 ∨ 256 < cntB 0 ls then 116 else if ringsB la = 0 then ringsB lb else ringsB la by rw [← hls]; rfl)
  obtain ⟨ck, hck⟩ : ∃ ck, checkB la lb op fill rung cap = ck := ⟨_, rfl⟩
  rw [hck] at HCH
  obtain ⟨ct, hct⟩ : ∃ ct, cntB 0 ls = ct := ⟨_, rfl⟩
  rw [hct] at HCH
  go_wp2_with fail
  go_loopw [3, 14] (fun nn i wr => w2 = wr ∧ ∃ x n : Int, i = .int .i64 x ∧ nn = .int .i64 n ∧ Aside0 (0 ≤ x ∧ x ≤ ls.length ∧ 0 ≤ n ∧ n ≤ 256 ∧ ct = cntB n (ls.drop x.toNat))) (fun _ i _ => ls.length - (intOf i).toNat)
  case atStart => exact ⟨rfl, 0, 0, rfl, rfl, ⟨by omega, by omega, by omega, by omega, hct.symm⟩⟩
  case round =>
    obtain ⟨rfl, x, n, rfl, rfl, HX⟩ := hrel
    obtain ⟨h0, h1, h2, h3, h4⟩ := HX.out
    have H4 := Aside0.mk h4
    clear h4 HX hct
    by_cases hlt : x < (ls.length : Int)
    · have c3b0 : decide (x < (ls.length : Int)) = true := decide_eq_true hlt
      obtain ⟨ad, A0, c0, e1, hx0, hc0, hC0⟩ := at_L2 HC.out x h0 hlt
      cases e1
      have HD := Aside0.mk (cntB_drop n ls x.toNat (by omega))
      have hml := hmr (rd_L2 ls x) (by
        unfold rd_L2
        rw [List.getD_eq_getElem?_getD, List.getElem?_eq_getElem (by omega)]
        exact List.getElem_mem _)
      have hrd : ls.getD x.toNat [] = rd_L2 ls x := rfl
      rw [hrd] at HD
      obtain ⟨r, hr⟩ : ∃ r, rd_L2 ls x = r := ⟨_, rfl⟩
      rw [hr] at hx0 hc0 hC0 hml HD
      clear hC0 hr hrd
      have p1 := eq_true h0
      have p2 := eq_true hlt
      by_cases hr3 : ¬ (257 : Int) < (r.length : Int)
      · have hmn : mn (r.length : Int) 257 = r.length := by unfold mn; split <;> omega
        rw [hmn] at HD
        have hw1 : IntKind.i64.wrap (n + (r.length : Int)) = n + r.length := IntWalk.i64_in _ (by omega)
        have hr4 : decide ((257 : Int) < r.length) = false := decide_eq_false hr3
        by_cases hbig : 256 < n + (r.length : Int)
        · have d3 : decide (256 < n + (r.length : Int)) = true := decide_eq_true hbig
          have HT := Aside0.mk (show ct = n + (r.length : Int) by rw [H4.out, HD.out, if_pos hbig])
          clear HD
          have z0 := cell0 0 kj.out rfl; have z1 := cell0 1 kj.out rfl; have z2 := cell0 2 kj.out rfl; have z3 := cell0 3 kj.out rfl; have z4 := cell0 4 kj.out rfl; have z5 := cell0 5 kj.out rfl
          have HN := Aside0.mk (show ct = n + (r.length : Int) from HT.out)
          rw [HN.out] at HCH
          clear HN
          by_cases a0 : op < 0
          · have i0 : decide (op < 0) = true := decide_eq_true a0
            have HE := Aside0.mk (show ck = 110 by rw [HCH.out, if_pos (Or.inl a0)])
            go_wp2_with fail
            go_ret
            exact ⟨by first | (rw [HE.out]; rfl) | (rw [hck, HE.out]; rfl), HW.out⟩
          have i0 : decide (op < 0) = false := decide_eq_false a0
          by_cases b0 : 3 < op
          · have j0 : decide (3 < op) = true := decide_eq_true b0
            have HE := Aside0.mk (show ck = 110 by rw [HCH.out, if_pos (Or.inr b0)])
            go_wp2_with fail
            go_ret
            exact ⟨by first | (rw [HE.out]; rfl) | (rw [hck, HE.out]; rfl), HW.out⟩
          have j0 : decide (3 < op) = false := decide_eq_false b0
          have n0 : ¬ (op < 0 ∨ 3 < op) := by omega
          by_cases a1 : fill < 0
          · have i1 : decide (fill < 0) = true := decide_eq_true a1
            have HE := Aside0.mk (show ck = 111 by rw [HCH.out, if_neg n0, if_pos (Or.inl a1)])
            go_wp2_with fail
            go_ret
            exact ⟨by first | (rw [HE.out]; rfl) | (rw [hck, HE.out]; rfl), HW.out⟩
          have i1 : decide (fill < 0) = false := decide_eq_false a1
          by_cases b1 : 1 < fill
          · have j1 : decide (1 < fill) = true := decide_eq_true b1
            have HE := Aside0.mk (show ck = 111 by rw [HCH.out, if_neg n0, if_pos (Or.inr b1)])
            go_wp2_with fail
            go_ret
            exact ⟨by first | (rw [HE.out]; rfl) | (rw [hck, HE.out]; rfl), HW.out⟩
          have j1 : decide (1 < fill) = false := decide_eq_false b1
          have n1 : ¬ (fill < 0 ∨ 1 < fill) := by omega
          by_cases a2 : rung < 0
          · have i2 : decide (rung < 0) = true := decide_eq_true a2
            have HE := Aside0.mk (show ck = 112 by rw [HCH.out, if_neg n0, if_neg n1, if_pos (Or.inl a2)])
            go_wp2_with fail
            go_ret
            exact ⟨by first | (rw [HE.out]; rfl) | (rw [hck, HE.out]; rfl), HW.out⟩
          have i2 : decide (rung < 0) = false := decide_eq_false a2
          by_cases b2 : 28 < rung
          · have j2 : decide (28 < rung) = true := decide_eq_true b2
            have HE := Aside0.mk (show ck = 112 by rw [HCH.out, if_neg n0, if_neg n1, if_pos (Or.inr b2)])
            go_wp2_with fail
            go_ret
            exact ⟨by first | (rw [HE.out]; rfl) | (rw [hck, HE.out]; rfl), HW.out⟩
          have j2 : decide (28 < rung) = false := decide_eq_false b2
          have n2 : ¬ (rung < 0 ∨ 28 < rung) := by omega
          by_cases a3 : cap < 1
          · have i3 : decide (cap < 1) = true := decide_eq_true a3
            have HE := Aside0.mk (show ck = 113 by rw [HCH.out, if_neg n0, if_neg n1, if_neg n2, if_pos (Or.inl a3)])
            go_wp2_with fail
            go_ret
            exact ⟨by first | (rw [HE.out]; rfl) | (rw [hck, HE.out]; rfl), HW.out⟩
          have i3 : decide (cap < 1) = false := decide_eq_false a3
          by_cases b3 : 1024 < cap
          · have j3 : decide (1024 < cap) = true := decide_eq_true b3
            have HE := Aside0.mk (show ck = 113 by rw [HCH.out, if_neg n0, if_neg n1, if_neg n2, if_pos (Or.inr b3)])
            go_wp2_with fail
            go_ret
            exact ⟨by first | (rw [HE.out]; rfl) | (rw [hck, HE.out]; rfl), HW.out⟩
          have j3 : decide (1024 < cap) = false := decide_eq_false b3
          have n3 : ¬ (cap < 1 ∨ 1024 < cap) := by omega
          have i4 : decide (n + (r.length : Int) < 1) = false := decide_eq_false (by omega)
          have j4 : decide (256 < n + (r.length : Int)) = true := decide_eq_true (by omega)
          have HE := Aside0.mk (show ck = 116 by rw [HCH.out, if_neg n0, if_neg n1, if_neg n2, if_neg n3, if_pos (Or.inr (by omega))])
          go_wp2_with fail
          go_ret
          exact ⟨by first | (rw [HE.out]; rfl) | (rw [hck, HE.out]; rfl), HW.out⟩
        · have d3 : decide (256 < n + (r.length : Int)) = false := decide_eq_false hbig
          have HT := Aside0.mk (show ct = cntB (n + (r.length : Int)) (ls.drop (x.toNat + 1)) by rw [H4.out, HD.out, if_neg hbig])
          clear HD HCH
          go_wp2_with fail
          go_roundw
          case rel => exact ⟨by first | rfl | trivial, x + 1, n + (r.length : Int), by go_num, rfl, ⟨by omega, by omega, by omega, by omega, by rw [show (x + 1).toNat = x.toNat + 1 by omega]; exact HT.out⟩⟩
          case measure => simp [intOf]; omega
      · replace hr3 : (257 : Int) < r.length := by omega
        have hr4 : decide ((257 : Int) < r.length) = true := decide_eq_true hr3
        have hmn : mn (r.length : Int) 257 = 257 := by unfold mn; split <;> omega
        rw [hmn] at HD
        have hw1 : IntKind.i64.wrap (n + 257) = n + 257 := IntWalk.i64_in _ (by omega)
        have hbig : 256 < n + 257 := by omega
        have d3 : decide (256 < n + 257) = true := decide_eq_true hbig
        have HT := Aside0.mk (show ct = n + 257 by rw [H4.out, HD.out, if_pos hbig])
        clear HD
        have z0 := cell0 0 kj.out rfl; have z1 := cell0 1 kj.out rfl; have z2 := cell0 2 kj.out rfl; have z3 := cell0 3 kj.out rfl; have z4 := cell0 4 kj.out rfl; have z5 := cell0 5 kj.out rfl
        have HN := Aside0.mk (show ct = n + 257 from HT.out)
        rw [HN.out] at HCH
        clear HN
        by_cases a0 : op < 0
        · have i0 : decide (op < 0) = true := decide_eq_true a0
          have HE := Aside0.mk (show ck = 110 by rw [HCH.out, if_pos (Or.inl a0)])
          go_wp2_with fail
          go_ret
          exact ⟨by first | (rw [HE.out]; rfl) | (rw [hck, HE.out]; rfl), HW.out⟩
        have i0 : decide (op < 0) = false := decide_eq_false a0
        by_cases b0 : 3 < op
        · have j0 : decide (3 < op) = true := decide_eq_true b0
          have HE := Aside0.mk (show ck = 110 by rw [HCH.out, if_pos (Or.inr b0)])
          go_wp2_with fail
          go_ret
          exact ⟨by first | (rw [HE.out]; rfl) | (rw [hck, HE.out]; rfl), HW.out⟩
        have j0 : decide (3 < op) = false := decide_eq_false b0
        have n0 : ¬ (op < 0 ∨ 3 < op) := by omega
        by_cases a1 : fill < 0
        · have i1 : decide (fill < 0) = true := decide_eq_true a1
          have HE := Aside0.mk (show ck = 111 by rw [HCH.out, if_neg n0, if_pos (Or.inl a1)])
          go_wp2_with fail
          go_ret
          exact ⟨by first | (rw [HE.out]; rfl) | (rw [hck, HE.out]; rfl), HW.out⟩
        have i1 : decide (fill < 0) = false := decide_eq_false a1
        by_cases b1 : 1 < fill
        · have j1 : decide (1 < fill) = true := decide_eq_true b1
          have HE := Aside0.mk (show ck = 111 by rw [HCH.out, if_neg n0, if_pos (Or.inr b1)])
          go_wp2_with fail
          go_ret
          exact ⟨by first | (rw [HE.out]; rfl) | (rw [hck, HE.out]; rfl), HW.out⟩
        have j1 : decide (1 < fill) = false := decide_eq_false b1
        have n1 : ¬ (fill < 0 ∨ 1 < fill) := by omega
        by_cases a2 : rung < 0
        · have i2 : decide (rung < 0) = true := decide_eq_true a2
          have HE := Aside0.mk (show ck = 112 by rw [HCH.out, if_neg n0, if_neg n1, if_pos (Or.inl a2)])
          go_wp2_with fail
          go_ret
          exact ⟨by first | (rw [HE.out]; rfl) | (rw [hck, HE.out]; rfl), HW.out⟩
        have i2 : decide (rung < 0) = false := decide_eq_false a2
        by_cases b2 : 28 < rung
        · have j2 : decide (28 < rung) = true := decide_eq_true b2
          have HE := Aside0.mk (show ck = 112 by rw [HCH.out, if_neg n0, if_neg n1, if_pos (Or.inr b2)])
          go_wp2_with fail
          go_ret
          exact ⟨by first | (rw [HE.out]; rfl) | (rw [hck, HE.out]; rfl), HW.out⟩
        have j2 : decide (28 < rung) = false := decide_eq_false b2
        have n2 : ¬ (rung < 0 ∨ 28 < rung) := by omega
        by_cases a3 : cap < 1
        · have i3 : decide (cap < 1) = true := decide_eq_true a3
          have HE := Aside0.mk (show ck = 113 by rw [HCH.out, if_neg n0, if_neg n1, if_neg n2, if_pos (Or.inl a3)])
          go_wp2_with fail
          go_ret
          exact ⟨by first | (rw [HE.out]; rfl) | (rw [hck, HE.out]; rfl), HW.out⟩
        have i3 : decide (cap < 1) = false := decide_eq_false a3
        by_cases b3 : 1024 < cap
        · have j3 : decide (1024 < cap) = true := decide_eq_true b3
          have HE := Aside0.mk (show ck = 113 by rw [HCH.out, if_neg n0, if_neg n1, if_neg n2, if_pos (Or.inr b3)])
          go_wp2_with fail
          go_ret
          exact ⟨by first | (rw [HE.out]; rfl) | (rw [hck, HE.out]; rfl), HW.out⟩
        have j3 : decide (1024 < cap) = false := decide_eq_false b3
        have n3 : ¬ (cap < 1 ∨ 1024 < cap) := by omega
        have i4 : decide (n + 257 < 1) = false := decide_eq_false (by omega)
        have j4 : decide (256 < n + 257) = true := decide_eq_true (by omega)
        have HE := Aside0.mk (show ck = 116 by rw [HCH.out, if_neg n0, if_neg n1, if_neg n2, if_neg n3, if_pos (Or.inr (by omega))])
        go_wp2_with fail
        go_ret
        exact ⟨by first | (rw [HE.out]; rfl) | (rw [hck, HE.out]; rfl), HW.out⟩
    · have c3b0 : decide (x < (ls.length : Int)) = false := decide_eq_false hlt
      have HT := Aside0.mk (show ct = n by rw [H4.out, List.drop_eq_nil_of_le (by omega)]; rfl)
      have z0 := cell0 0 kj.out rfl; have z1 := cell0 1 kj.out rfl; have z2 := cell0 2 kj.out rfl; have z3 := cell0 3 kj.out rfl; have z4 := cell0 4 kj.out rfl; have z5 := cell0 5 kj.out rfl
      have HN := Aside0.mk (show ct = n from HT.out)
      rw [HN.out] at HCH
      clear HN
      by_cases a0 : op < 0
      · have i0 : decide (op < 0) = true := decide_eq_true a0
        have HE := Aside0.mk (show ck = 110 by rw [HCH.out, if_pos (Or.inl a0)])
        go_wp2_with fail
        go_ret
        exact ⟨by first | (rw [HE.out]; rfl) | (rw [hck, HE.out]; rfl), HW.out⟩
      have i0 : decide (op < 0) = false := decide_eq_false a0
      by_cases b0 : 3 < op
      · have j0 : decide (3 < op) = true := decide_eq_true b0
        have HE := Aside0.mk (show ck = 110 by rw [HCH.out, if_pos (Or.inr b0)])
        go_wp2_with fail
        go_ret
        exact ⟨by first | (rw [HE.out]; rfl) | (rw [hck, HE.out]; rfl), HW.out⟩
      have j0 : decide (3 < op) = false := decide_eq_false b0
      have n0 : ¬ (op < 0 ∨ 3 < op) := by omega
      by_cases a1 : fill < 0
      · have i1 : decide (fill < 0) = true := decide_eq_true a1
        have HE := Aside0.mk (show ck = 111 by rw [HCH.out, if_neg n0, if_pos (Or.inl a1)])
        go_wp2_with fail
        go_ret
        exact ⟨by first | (rw [HE.out]; rfl) | (rw [hck, HE.out]; rfl), HW.out⟩
      have i1 : decide (fill < 0) = false := decide_eq_false a1
      by_cases b1 : 1 < fill
      · have j1 : decide (1 < fill) = true := decide_eq_true b1
        have HE := Aside0.mk (show ck = 111 by rw [HCH.out, if_neg n0, if_pos (Or.inr b1)])
        go_wp2_with fail
        go_ret
        exact ⟨by first | (rw [HE.out]; rfl) | (rw [hck, HE.out]; rfl), HW.out⟩
      have j1 : decide (1 < fill) = false := decide_eq_false b1
      have n1 : ¬ (fill < 0 ∨ 1 < fill) := by omega
      by_cases a2 : rung < 0
      · have i2 : decide (rung < 0) = true := decide_eq_true a2
        have HE := Aside0.mk (show ck = 112 by rw [HCH.out, if_neg n0, if_neg n1, if_pos (Or.inl a2)])
        go_wp2_with fail
        go_ret
        exact ⟨by first | (rw [HE.out]; rfl) | (rw [hck, HE.out]; rfl), HW.out⟩
      have i2 : decide (rung < 0) = false := decide_eq_false a2
      by_cases b2 : 28 < rung
      · have j2 : decide (28 < rung) = true := decide_eq_true b2
        have HE := Aside0.mk (show ck = 112 by rw [HCH.out, if_neg n0, if_neg n1, if_pos (Or.inr b2)])
        go_wp2_with fail
        go_ret
        exact ⟨by first | (rw [HE.out]; rfl) | (rw [hck, HE.out]; rfl), HW.out⟩
      have j2 : decide (28 < rung) = false := decide_eq_false b2
      have n2 : ¬ (rung < 0 ∨ 28 < rung) := by omega
      by_cases a3 : cap < 1
      · have i3 : decide (cap < 1) = true := decide_eq_true a3
        have HE := Aside0.mk (show ck = 113 by rw [HCH.out, if_neg n0, if_neg n1, if_neg n2, if_pos (Or.inl a3)])
        go_wp2_with fail
        go_ret
        exact ⟨by first | (rw [HE.out]; rfl) | (rw [hck, HE.out]; rfl), HW.out⟩
      have i3 : decide (cap < 1) = false := decide_eq_false a3
      by_cases b3 : 1024 < cap
      · have j3 : decide (1024 < cap) = true := decide_eq_true b3
        have HE := Aside0.mk (show ck = 113 by rw [HCH.out, if_neg n0, if_neg n1, if_neg n2, if_pos (Or.inr b3)])
        go_wp2_with fail
        go_ret
        exact ⟨by first | (rw [HE.out]; rfl) | (rw [hck, HE.out]; rfl), HW.out⟩
      have j3 : decide (1024 < cap) = false := decide_eq_false b3
      have n3 : ¬ (cap < 1 ∨ 1024 < cap) := by omega
      by_cases a4 : n < 1
      · have i4 : decide (n < 1) = true := decide_eq_true a4
        have HE := Aside0.mk (show ck = 116 by rw [HCH.out, if_neg n0, if_neg n1, if_neg n2, if_neg n3, if_pos (Or.inl a4)])
        go_wp2_with fail
        go_ret
        exact ⟨by first | (rw [HE.out]; rfl) | (rw [hck, HE.out]; rfl), HW.out⟩
      have i4 : decide (n < 1) = false := decide_eq_false a4
      have j4 : decide (256 < n) = false := decide_eq_false (by omega)
      have n4 : ¬ (n < 1 ∨ 256 < n) := by omega
      go_wp2_with fail
      refine (rings_any A ca la _ HA2.out hca (by omega) hma).mono ?_
      rintro e w3 ⟨rfl, hb3⟩
      have HW3 := Aside0.mk (below_step HW.out hb3)
      have HB3 := Aside0.mk (Kd.C_below HB2.out hb3)
      replace z1 := cell_on hb3 z1
      obtain ⟨rg, hrg⟩ : ∃ rg, ringsB la = rg := ⟨_, rfl⟩
      by_cases hz : rg = 0
      · have HE := Aside0.mk (show ck = ringsB lb by rw [HCH.out, if_neg n0, if_neg n1, if_neg n2, if_neg n3, if_neg n4, if_pos (hrg.trans hz)])
        rw [hrg, hz]
        clear hb3
        go_wp2_with fail
        refine (rings_any B cb lb _ HB3.out hcb (by omega) hmb).mono ?_
        rintro e w4 ⟨rfl, hb4⟩
        have HW4 := Aside0.mk (below_step HW3.out hb4)
        clear hb4
        go_wp2_with fail
        go_ret
        exact ⟨by first | (rw [HE.out]; rfl) | (rw [hck, HE.out]; rfl), HW4.out⟩
      · have HE := Aside0.mk (show ck = rg by rw [HCH.out, if_neg n0, if_neg n1, if_neg n2, if_neg n3, if_neg n4, if_neg (fun h => hz (hrg.symm.trans h)), hrg])
        rw [hrg]
        clear hb3
        have hzb : (rg != 0) = true := by simpa using hz
        go_wp2_with fail
        go_ret
        exact ⟨by first | (rw [HE.out]; rfl) | (rw [hck, HE.out]; rfl), HW3.out⟩
end Go.Proofs.Ytpfgjagpaddcpaa.Own

-- Printed by the kit's print.py for this seat, turned so that functions that were walked by hand count as printed; called by this session.
namespace Go.Proofs.Ytpfgjagpaddcpaa.X
open Go.RowKit Go.Proofs.YtpfgjagpaddcpaaW.PrintWords Go.Proofs.YtpfgjagpaddcpaaW.PrintLast Go.Proofs.YtpfgjagpaddcpaaW.PrintMore
attribute [local go_sem] max2_int min2_int max_two min_two max_three min_three max_four min_four
set_option linter.unusedVariables false
set_option linter.unusedSimpArgs false

attribute [local go_sem high] eqA23
/-! ### api_Point: function 79 -/
def api_Point.l0 : Nat → List (S23) → List (S23) → Int → Int → Option (Bool)
  | 0, _, _, _, _ => none
  | k + 1, x0, x1, x12, x13 => if x13 < x12 then (if 0 ≤ x13 then (if x13 < (x0.length : Int) then (if x13 < (x1.length : Int) then (if (!(((rd_T23 x0 x13).f0) == ((rd_T23 x1 x13).f0)) || (!(((rd_T23 x0 x13).f1) == ((rd_T23 x1 x13).f1)))) = true then (some false) else (api_Point.l0 k x0 x1 x12 (wrap64 (x13 + 1)))) else (none)) else (none)) else (none)) else (some true)
def api_Point.f (k : Nat) (l0 : List (S23)) (l1 : List (S23)) : Option (Bool) := if (l0.length : Int) = (l1.length : Int) then (api_Point.l0 k l0 l1 (l0.length : Int) 0) else (some false)
set_option maxHeartbeats 8000000 in
set_option maxRecDepth 100000 in
theorem api_Point.calls (k : Nat) (A0 : Option Addr) (c0 : Nat) (l0 : List (S23)) (A1 : Option Addr) (c1 : Nat) (l1 : List (S23)) (r : Bool) (w : World) (hr0 : Kd.C k23 w A0 l0.length l0) (hc0 : l0.length ≤ c0) (hr1 : Kd.C k23 w A1 l1.length l1) (hc1 : l1.length ≤ c1) (h : api_Point.f k l0 l1 = some r) :
    Calls Try.prog 79 #[.slice A0 l0.length c0, .slice A1 l1.length c1] w fun e w' => e = .returned (.bool r) ∧ Drawn0 w w' := by
  have hu23 := Try.underlying23
  have HR0 := Aside0.mk hr0
  have HC0 := Aside0.mk hc0
  clear hr0 hc0
  have HR1 := Aside0.mk hr1
  have HC1 := Aside0.mk hc1
  clear hr1 hc1
  have H : (if (l0.length : Int) = (l1.length : Int) then (api_Point.l0 k l0 l1 (l0.length : Int) 0) else (some false)) = some r := h
  clear h
  by_cases c3 : (l0.length : Int) = (l1.length : Int)
  · rw [if_pos c3] at H
    have c3b0 : ((l0.length : Int) == (l1.length : Int)) = true := beq_iff_eq.mpr c3
    have c3b1 : ((l0.length : Int) != (l1.length : Int)) = false := bne_eq_false_iff_eq.mpr c3
    have c3b2 : (l0.length == l1.length) = true := by first | simpa using c3 | (simp at c3 ⊢; omega)
    clear c3
    have H' := Aside0.mk H
    clear H
    go_enter Try.func79, Try.ntmps79
    go_wp2
    repeat (go_quiet (fail); try go_wp2)
    go_loopg [13] k (fun kq v13 w' => ∃ (x13_1 : Int), v13 = .int .i64 x13_1 ∧ Aside0 (api_Point.l0 kq l0 l1 (l0.length : Int) x13_1 = some r) ∧ Aside0 (kq ≤ k) ∧ Drawn0 w w')
    case atStart => exact ⟨(0), (by first | rfl | (simp; done) | (simp [*]; done)), H', ⟨Nat.le_refl _⟩, by repeat (first | exact Drawn0.refl _ | apply Drawn0.step)⟩
    case round =>
      clear H'
      try clear c1
      try clear p2
      try clear c3
      try clear c3b0
      try clear c3b1
      try clear c3b2
      obtain ⟨x13_1, rfl, HA, HK1, ⟨m1, rfl⟩⟩ := hrel
      cases gk with
      | zero => exact absurd HA.out (by simp [api_Point.l0])
      | succ k1 =>
        have H := HA.out
        clear HA
        simp only [api_Point.l0] at H
        by_cases c4 : x13_1 < (l0.length : Int)
        · rw [if_pos c4] at H
          have c4b0 : decide (x13_1 < (l0.length : Int)) = true := decide_eq_true c4
          clear c4
          by_cases c5 : 0 ≤ x13_1
          · rw [if_pos c5] at H
            have c5b0 : decide (0 ≤ x13_1) = true := decide_eq_true c5
            clear c5
            by_cases c6 : x13_1 < (l0.length : Int)
            · rw [if_pos c6] at H
              have c6b0 : decide (x13_1 < (l0.length : Int)) = true := decide_eq_true c6
              clear c6
              by_cases c7 : x13_1 < (l1.length : Int)
              · rw [if_pos c7] at H
                have c7b0 : decide (x13_1 < (l1.length : Int)) = true := decide_eq_true c7
                clear c7
                by_cases c8 : (!(((rd_T23 l0 x13_1).f0) == ((rd_T23 l1 x13_1).f0)) || (!(((rd_T23 l0 x13_1).f1) == ((rd_T23 l1 x13_1).f1)))) = true
                · rw [if_pos c8] at H
                  have c8b0 : (!(((rd_T23 l0 x13_1).f0) == ((rd_T23 l1 x13_1).f0)) || (!(((rd_T23 l0 x13_1).f1) == ((rd_T23 l1 x13_1).f1)))) = true := c8
                  clear c8
                  obtain rfl := Option.some.inj H
                  have p101 : 0 ≤ (x13_1 : Int) := of_decide_eq_true (by first | (with_reducible assumption) | assumption)
                  have q101 : x13_1 < (l0.length : Int) := of_decide_eq_true (by first | (with_reducible assumption) | assumption)
                  obtain ⟨ad101, e101, hx101_0, hx101_1⟩ := at_T23 HR0.out x13_1 p101 q101
                  cases e101
                  replace p101 := eq_true p101
                  replace q101 := eq_true q101
                  have p102 : 0 ≤ (x13_1 : Int) := of_decide_eq_true (by first | (with_reducible assumption) | assumption)
                  have q102 : x13_1 < (l1.length : Int) := of_decide_eq_true (by first | (with_reducible assumption) | assumption)
                  obtain ⟨ad102, e102, hx102_0, hx102_1⟩ := at_T23 HR1.out x13_1 p102 q102
                  cases e102
                  replace p102 := eq_true p102
                  replace q102 := eq_true q102
                  go_wp2
                  repeat (go_quiet (fail); try go_wp2)
                  go_ret
                  exact ⟨by first | rfl | (simp; done) | (simp [*]; done), by repeat (first | exact Drawn0.refl _ | apply Drawn0.step)⟩
                · rw [if_neg c8] at H
                  have c8b0 : (!(((rd_T23 l0 x13_1).f0) == ((rd_T23 l1 x13_1).f0)) || (!(((rd_T23 l0 x13_1).f1) == ((rd_T23 l1 x13_1).f1)))) = false := by simpa using c8
                  clear c8
                  have H' := Aside0.mk H
                  clear H
                  have p101 : 0 ≤ (x13_1 : Int) := of_decide_eq_true (by first | (with_reducible assumption) | assumption)
                  have q101 : x13_1 < (l0.length : Int) := of_decide_eq_true (by first | (with_reducible assumption) | assumption)
                  obtain ⟨ad101, e101, hx101_0, hx101_1⟩ := at_T23 HR0.out x13_1 p101 q101
                  cases e101
                  replace p101 := eq_true p101
                  replace q101 := eq_true q101
                  have p102 : 0 ≤ (x13_1 : Int) := of_decide_eq_true (by first | (with_reducible assumption) | assumption)
                  have q102 : x13_1 < (l1.length : Int) := of_decide_eq_true (by first | (with_reducible assumption) | assumption)
                  obtain ⟨ad102, e102, hx102_0, hx102_1⟩ := at_T23 HR1.out x13_1 p102 q102
                  cases e102
                  replace p102 := eq_true p102
                  replace q102 := eq_true q102
                  go_wp2
                  repeat (go_quiet (fail); try go_wp2)
                  go_roundg k1
                  case measure => have := HK1.out; omega
                  case rel => exact ⟨(wrap64 (x13_1 + 1)), (by first | rfl | (simp; done) | (simp [*]; done)), H', ⟨by have := HK1.out; omega⟩, by repeat (first | exact Drawn0.refl _ | apply Drawn0.step)⟩
              · rw [if_neg c7] at H
                exact absurd H (by simp)
            · rw [if_neg c6] at H
              exact absurd H (by simp)
          · rw [if_neg c5] at H
            exact absurd H (by simp)
        · rw [if_neg c4] at H
          have c4b0 : decide (x13_1 < (l0.length : Int)) = false := decide_eq_false c4
          clear c4
          obtain rfl := Option.some.inj H
          go_wp2
          repeat (go_quiet (fail); try go_wp2)
          go_ret
          exact ⟨by first | rfl | (simp; done) | (simp [*]; done), by repeat (first | exact Drawn0.refl _ | apply Drawn0.step)⟩
  · rw [if_neg c3] at H
    have c3b0 : ((l0.length : Int) == (l1.length : Int)) = false := beq_eq_false_iff_ne.mpr c3
    have c3b1 : ((l0.length : Int) != (l1.length : Int)) = true := bne_iff_ne.mpr c3
    have c3b2 : (l0.length == l1.length) = false := by first | simpa using c3 | (simp at c3 ⊢; omega)
    obtain rfl := Option.some.inj H
    go_enter Try.func79, Try.ntmps79
    go_wp2
    repeat (go_quiet (fail); try go_wp2)
    go_ret
    exact ⟨by first | rfl | (simp; done) | (simp [*]; done), by repeat (first | exact Drawn0.refl _ | apply Drawn0.step)⟩

end Go.Proofs.Ytpfgjagpaddcpaa.X

/-! Which jobs are the same: slices.Equal of rings, EqualFunc, alike, Same. -/
namespace Go.Proofs.Ytpfgjagpaddcpaa.Own
open Go.RowKit Go.Proofs.YtpfgjagpaddcpaaW.PrintWords Go.Proofs.YtpfgjagpaddcpaaW.PrintLast Go.Proofs.YtpfgjagpaddcpaaW.PrintMore
open Go.Proofs.Ytpfgjagpaddcpaa.X
set_option linter.unusedVariables false
set_option linter.unusedSimpArgs false

theorem equalR_l0 (l m : List S23) (hl : l.length = m.length) (hm : l.length ≤ 9223372036854775807) (d : Nat) : ∀ (k i : Nat), i + d = l.length → d < k →
    ∃ b, api_Point.l0 k l m l.length i = some b ∧ (b = true ↔ ∀ j, i ≤ j → j < l.length → samePt l m j = true) := by
  induction d with
  | zero =>
    intro k i hi hk
    obtain ⟨k, rfl⟩ : ∃ q, k = q + 1 := ⟨k - 1, by omega⟩
    exact ⟨true, by simp only [api_Point.l0]; rw [if_neg (by omega)], by simp; intro j h1 h2; omega⟩
  | succ d ih =>
    intro k i hi hk
    obtain ⟨k, rfl⟩ : ∃ q, k = q + 1 := ⟨k - 1, by omega⟩
    obtain ⟨b, hb, hb2⟩ := ih k (i + 1) (by omega) (by omega)
    have hw : wrap64 ((i : Int) + 1) = ((i + 1 : Nat) : Int) := by unfold wrap64; omega
    cases hs : samePt l m i with
    | false =>
      refine ⟨false, ?_, ?_⟩
      · simp only [api_Point.l0]
        rw [if_pos (by omega), if_pos (by omega), if_pos (by omega), if_pos (by omega), if_pos]
        unfold samePt at hs
        unfold rd_T23
        simp only [Int.toNat_natCast]
        revert hs
        cases (l.getD i z23).f0 == (m.getD i z23).f0 <;> cases (l.getD i z23).f1 == (m.getD i z23).f1 <;> simp
      · constructor
        · intro h; cases h
        · intro h; rw [h i (Nat.le_refl _) (by omega)] at hs; cases hs
    | true =>
      refine ⟨b, ?_, ?_⟩
      · simp only [api_Point.l0]
        rw [if_pos (by omega), if_pos (by omega), if_pos (by omega), if_pos (by omega), if_neg, hw]
        · exact hb
        · unfold samePt at hs
          unfold rd_T23
          simp only [Int.toNat_natCast]
          revert hs
          cases (l.getD i z23).f0 == (m.getD i z23).f0 <;> cases (l.getD i z23).f1 == (m.getD i z23).f1 <;> simp
      · rw [hb2]
        constructor
        · intro h j h1 h2
          by_cases hj : j = i
          · rw [hj]; exact hs
          · exact h j (by omega) h2
        · intro h j h1 h2
          exact h j (by omega) h2

theorem equalR_f (l m : List S23) (hm : l.length ≤ 9223372036854775807) : api_Point.f (l.length + 1) l m = some (eqPts l m) := by
  unfold api_Point.f eqPts
  by_cases hl : l.length = m.length
  · obtain ⟨b, hb, hb2⟩ := equalR_l0 l m hl hm l.length (l.length + 1) 0 (by omega) (by omega)
    rw [if_pos (by omega)]
    have hb' : api_Point.l0 (l.length + 1) l m l.length 0 = some b := hb
    rw [hb']
    simp only [Option.some.injEq]
    rw [Bool.eq_iff_iff, hb2, decide_eq_true_iff]
    exact ⟨fun h => ⟨hl, fun j hj => h j (Nat.zero_le _) hj⟩, fun h j _ hj => h.2 j hj⟩
  · rw [if_neg (by omega)]
    simp [hl]

theorem equalR_any (A B : Option Addr) (c d : Nat) (l m : List S23) (w : World) (hr : Kd.C k23 w A l.length l) (hc : l.length ≤ c) (hs : Kd.C k23 w B m.length m) (hd : m.length ≤ d) (hm : l.length ≤ 9223372036854775807) :
    Calls Try.prog 79 #[.slice A l.length c, .slice B m.length d] w fun e w' => e = .returned (.bool (eqPts l m)) ∧ Below w.heap.size w w' :=
  (api_Point.calls (l.length + 1) A c l B d m _ w hr hc hs hd (equalR_f l m hm)).mono fun e w' ⟨h1, h2⟩ => ⟨h1, by first | exact h2 | (obtain ⟨n, rfl⟩ := h2.out; exact pw_below_drewN (Below.refl _ _) n)⟩

theorem alike1_any (A B : Option Addr) (c d : Nat) (l m : List S23) (w : World) (hr : Kd.C k23 w A l.length l) (hc : l.length ≤ c) (hs : Kd.C k23 w B m.length m) (hd : m.length ≤ d) (hm : l.length ≤ 9223372036854775807) :
    Calls Try.prog 78 #[.slice A l.length c, .slice B m.length d] w fun e w' => e = .returned (.bool (eqPts l m)) ∧ Below w.heap.size w w' := by
  have HR := Aside0.mk hr
  have HS := Aside0.mk hs
  clear hr hs
  go_enter Try.func78, Try.ntmps78
  go_wp2_with fail
  refine (equalR_any A B c d l m _ HR.out hc HS.out hd hm).mono ?_
  rintro e w1 ⟨rfl, hb⟩
  go_wp2_with fail
  go_ret
  exact ⟨rfl, hb⟩

def eqRings (la lb : List (List S23)) : Bool := decide (la.length = lb.length ∧ ∀ j, j < la.length → eqPts (la.getD j []) (lb.getD j []) = true)

set_option maxRecDepth 100000 in
theorem eqFunc_any (A B : Option Addr) (ca cb : Nat) (la lb : List (List S23)) (w : World) (hA : Kd.C (Kd.slice 23 k23) w A la.length la) (hB : Kd.C (Kd.slice 23 k23) w B lb.length lb) (hm : la.length ≤ 9223372036854775807) (hm2 : ∀ r ∈ la, r.length ≤ 9223372036854775807) :
    Calls Try.prog 77 #[.slice A la.length ca, .slice B lb.length cb, .func (.func 78) #[] #[]] w fun e w' => e = .returned (.bool (eqRings la lb)) ∧ Below w.heap.size w w' := by
  have HA := Aside0.mk hA
  have HB0 := Aside0.mk hB
  clear hA hB
  go_enter Try.func77, Try.ntmps77
  by_cases hl : (la.length : Int) = (lb.length : Int)
  · have HL := Aside0.mk (show la.length = lb.length by omega)
    have d0 : ((la.length : Int) != (lb.length : Int)) = false := by simpa using hl
    have hl2 := eq_true hl
    go_wp2_with fail
    go_loopw [17] (fun i wr => ∃ x : Int, i = .int .i64 x ∧ Aside0 (0 ≤ x ∧ x ≤ la.length ∧ (∀ j : Nat, (j : Int) < x → eqPts (la.getD j []) (lb.getD j []) = true)) ∧ Aside0 (Below w.heap.size w wr)) (fun i _ => la.length - (intOf i).toNat)
    case atStart => exact ⟨0, rfl, ⟨by omega, by omega, fun j hj => by omega⟩, ⟨Below.refl _ _⟩⟩
    case round =>
      obtain ⟨x, rfl, HX, HB⟩ := hrel
      obtain ⟨h0, h1, h2⟩ := HX.out
      have HJ := Aside0.mk h2
      clear HX h2
      by_cases hlt : x < (la.length : Int)
      · have c3b0 : decide (x < (la.length : Int)) = true := decide_eq_true hlt
        have hltb : x < (lb.length : Int) := by omega
        obtain ⟨ad, A0, c0, e1, hx0, hc0, hC0⟩ := at_L2 HA.out x h0 hlt
        cases e1
        obtain ⟨bd, B0, d0', e1, hy0, hd0, hD0⟩ := at_L2 HB0.out x h0 hltb
        cases e1
        replace hx0 := cell_on HB.out hx0
        replace hy0 := cell_on HB.out hy0
        have hml := hm2 (rd_L2 la x) (by
          unfold rd_L2
          rw [List.getD_eq_getElem?_getD, List.getElem?_eq_getElem (by omega)]
          exact List.getElem_mem _)
        have hra : la.getD x.toNat [] = rd_L2 la x := rfl
        have hrb : lb.getD x.toNat [] = rd_L2 lb x := rfl
        obtain ⟨r, hr⟩ : ∃ r, rd_L2 la x = r := ⟨_, rfl⟩
        obtain ⟨q, hq⟩ : ∃ q, rd_L2 lb x = q := ⟨_, rfl⟩
        rw [hr] at hx0 hc0 hC0 hml hra
        rw [hq] at hy0 hd0 hD0 hrb
        have HRa := Aside0.mk hra
        have HRb := Aside0.mk hrb
        have HC1 := Aside0.mk (Kd.C_below hC0 HB.out)
        have HD1 := Aside0.mk (Kd.C_below hD0 HB.out)
        clear hC0 hD0 hr hq hra hrb
        have p1 := eq_true h0
        have p2 := eq_true hlt
        have p3 := eq_true hltb
        go_wp2_with fail
        refine (alike1_any A0 B0 c0 d0' r q _ HC1.out hc0 HD1.out hd0 hml).mono ?_
        rintro e w1 ⟨rfl, hb1⟩
        cases hs : eqPts r q with
        | false =>
          have HE := Aside0.mk (show eqRings la lb = false by
            unfold eqRings
            rw [decide_eq_false_iff_not]
            intro h
            have := h.2 x.toNat (by omega)
            rw [HRa.out, HRb.out, hs] at this
            cases this)
          go_wp2_with fail
          go_ret
          exact ⟨by rw [HE.out]; rfl, below_step HB.out hb1⟩
        | true =>
          have HS := Aside0.mk hs
          clear hs
          go_wp2_with fail
          go_roundw
          case rel =>
            refine ⟨x + 1, by go_num, ⟨by omega, by omega, fun j hj => ?_⟩, ⟨below_step HB.out hb1⟩⟩
            by_cases hj2 : (j : Int) < x
            · exact HJ.out j hj2
            · have : j = x.toNat := by omega
              rw [this, HRa.out, HRb.out]
              exact HS.out
          case measure => simp [intOf]; omega
      · have c3b0 : decide (x < (la.length : Int)) = false := decide_eq_false hlt
        have HE := Aside0.mk (show eqRings la lb = true by
          unfold eqRings
          rw [decide_eq_true_iff]
          exact ⟨HL.out, fun j hj => HJ.out j (by omega)⟩)
        go_wp2_with fail
        go_ret
        exact ⟨by rw [HE.out]; rfl, HB.out⟩
  · have d0 : ((la.length : Int) != (lb.length : Int)) = true := by simpa using hl
    have HE := Aside0.mk (show eqRings la lb = false by unfold eqRings; rw [decide_eq_false_iff_not]; intro h; exact hl (by rw [h.1]))
    go_wp2_with fail
    go_ret
    exact ⟨by rw [HE.out]; rfl, Below.refl _ _⟩

theorem alike_any (A B : Option Addr) (ca cb : Nat) (la lb : List (List S23)) (w : World) (hA : Kd.C (Kd.slice 23 k23) w A la.length la) (hB : Kd.C (Kd.slice 23 k23) w B lb.length lb) (hm : la.length ≤ 9223372036854775807) (hm2 : ∀ r ∈ la, r.length ≤ 9223372036854775807) :
    Calls Try.prog 68 #[.slice A la.length ca, .slice B lb.length cb] w fun e w' => e = .returned (.bool (eqRings la lb)) ∧ Below w.heap.size w w' := by
  have HA := Aside0.mk hA
  have HB0 := Aside0.mk hB
  clear hA hB
  go_enter Try.func68, Try.ntmps68
  go_wp2_with fail
  refine (eqFunc_any A B ca cb la lb _ HA.out HB0.out hm hm2).mono ?_
  rintro e w1 ⟨rfl, hb⟩
  go_wp2_with fail
  go_ret
  exact ⟨rfl, hb⟩
end Go.Proofs.Ytpfgjagpaddcpaa.Own

/-! input.Same. -/
namespace Go.Proofs.Ytpfgjagpaddcpaa.Own
open Go.RowKit Go.Proofs.YtpfgjagpaddcpaaW.PrintWords Go.Proofs.YtpfgjagpaddcpaaW.PrintLast Go.Proofs.YtpfgjagpaddcpaaW.PrintMore
open Go.Proofs.Ytpfgjagpaddcpaa.X
set_option linter.unusedVariables false
set_option linter.unusedSimpArgs false

def sameB (la lb : List (List S23)) (o f r c : Int) (la' lb' : List (List S23)) (o' f' r' c' : Int) : Bool :=
  (o == o') && (f == f') && (r == r') && (c == c') && eqRings la la' && eqRings lb lb'

abbrev jobVS (A B : Option Addr) (na nb ca cb : Nat) (op fill rung cap : Int) : Value := .agg #[.slice A na ca, .slice B nb cb, .int .i64 op, .int .i64 fill, .int .i64 rung, .int .i64 cap]

set_option maxRecDepth 100000 in
set_option maxHeartbeats 8000000 in
theorem same_any (A B : Option Addr) (ca cb : Nat) (la lb : List (List S23)) (o f r c : Int) (A' B' : Option Addr) (ca' cb' : Nat) (la' lb' : List (List S23)) (o' f' r' c' : Int) (w : World)
    (hA : Kd.C (Kd.slice 23 k23) w A la.length la) (hB : Kd.C (Kd.slice 23 k23) w B lb.length lb) (hA' : Kd.C (Kd.slice 23 k23) w A' la'.length la') (hB' : Kd.C (Kd.slice 23 k23) w B' lb'.length lb')
    (hma : la.length ≤ 9223372036854775807) (hmb : lb.length ≤ 9223372036854775807) (hma2 : ∀ r ∈ la, r.length ≤ 9223372036854775807) (hmb2 : ∀ r ∈ lb, r.length ≤ 9223372036854775807) :
    Calls Try.prog 50 #[jobVS A B la.length lb.length ca cb o f r c, jobVS A' B' la'.length lb'.length ca' cb' o' f' r' c'] w fun e w' => e = .returned (.bool (sameB la lb o f r c la' lb' o' f' r' c')) ∧ Below w.heap.size w w' := by
  have HA := Aside0.mk hA
  have HB := Aside0.mk hB
  have HA' := Aside0.mk hA'
  have HB' := Aside0.mk hB'
  have hu41 := Try.underlying41
  clear hA hB hA' hB'
  obtain ⟨sv, hsv⟩ : ∃ sv, sameB la lb o f r c la' lb' o' f' r' c' = sv := ⟨_, rfl⟩
  have HV := Aside0.mk (show sv = ((o == o') && (f == f') && (r == r') && (c == c') && eqRings la la' && eqRings lb lb') from hsv.symm)
  rw [hsv]
  clear hsv
  go_enter Try.func50, Try.ntmps50
  have kb := blk_new w (.cells #[.slice A la.length ca, .slice B lb.length cb, .int .i64 o, .int .i64 f, .int .i64 r, .int .i64 c] 41)
  have kc := blk_new (w.alloc (.cells #[.slice A la.length ca, .slice B lb.length cb, .int .i64 o, .int .i64 f, .int .i64 r, .int .i64 c] 41)) (.cells #[.slice A' la'.length ca', .slice B' lb'.length cb', .int .i64 o', .int .i64 f', .int .i64 r', .int .i64 c'] 41)
  have kb2 := (Below.heap_alloc (w.alloc (.cells #[.slice A la.length ca, .slice B lb.length cb, .int .i64 o, .int .i64 f, .int .i64 r, .int .i64 c] 41)) (.cells #[.slice A' la'.length ca', .slice B' lb'.length cb', .int .i64 o', .int .i64 f', .int .i64 r', .int .i64 c'] 41) w.heap.size (by simp)).trans kb
  rw [World.size_alloc] at kc
  have HW := Aside0.mk (below_alloc (below_alloc (Below.refl w.heap.size w) (.cells #[.slice A la.length ca, .slice B lb.length cb, .int .i64 o, .int .i64 f, .int .i64 r, .int .i64 c] 41)) (.cells #[.slice A' la'.length ca', .slice B' lb'.length cb', .int .i64 o', .int .i64 f', .int .i64 r', .int .i64 c'] 41))
  have KB := Aside0.mk kb2
  have KC := Aside0.mk kc
  clear kb kc kb2
  by_cases h1 : o = o'
  · subst h1
    by_cases h2 : f = f'
    · subst h2
      by_cases h3 : r = r'
      · subst h3
        by_cases h4 : c = c'
        · subst h4
          go_wp2_with fail
          refine (alike_any A A' ca ca' la la' _ (Kd.C_below HA.out HW.out) (Kd.C_below HA'.out HW.out) hma hma2).mono ?_
          rintro e w1 ⟨rfl, hb⟩
          have z1 := cell0 1 (blk_below KB.out hb) rfl
          have y1 := cell0 1 (blk_below KC.out hb) rfl
          have HW1 := Aside0.mk (below_step HW.out hb)
          clear hb
          cases he : eqRings la la' with
          | false =>
            have HE := Aside0.mk (show sv = false by rw [HV.out, he]; simp)
            go_wp2_with fail
            go_ret
            exact ⟨by rw [HE.out]; rfl, HW1.out⟩
          | true =>
            have HE := Aside0.mk (show sv = eqRings lb lb' by rw [HV.out, he]; simp)
            go_wp2_with fail
            refine (alike_any B B' cb cb' lb lb' _ (Kd.C_below HB.out HW1.out) (Kd.C_below HB'.out HW1.out) hmb hmb2).mono ?_
            rintro e w2 ⟨rfl, hb⟩
            have HW2 := Aside0.mk (below_step HW1.out hb)
            clear hb
            go_wp2_with fail
            go_ret
            exact ⟨by rw [HE.out]; rfl, HW2.out⟩
        · have i4 : (c == c') = false := by simpa using h4
          have HE := Aside0.mk (show sv = false by rw [HV.out, i4]; simp)
          go_wp2_with fail
          go_ret
          exact ⟨by rw [HE.out]; rfl, HW.out⟩
      · have i3 : (r == r') = false := by simpa using h3
        have HE := Aside0.mk (show sv = false by rw [HV.out, i3]; simp)
        go_wp2_with fail
        go_ret
        exact ⟨by rw [HE.out]; rfl, HW.out⟩
    · have i2 : (f == f') = false := by simpa using h2
      have HE := Aside0.mk (show sv = false by rw [HV.out, i2]; simp)
      go_wp2_with fail
      go_ret
      exact ⟨by rw [HE.out]; rfl, HW.out⟩
  · have i1 : (o == o') = false := by simpa using h1
    have HE := Aside0.mk (show sv = false by rw [HV.out, i1]; simp)
    go_wp2_with fail
    go_ret
    exact ⟨by rw [HE.out]; rfl, HW.out⟩
end Go.Proofs.Ytpfgjagpaddcpaa.Own

/-! slices.Clone of a ring. -/
namespace Go.Proofs.Ytpfgjagpaddcpaa.Own
open Go.RowKit Go.Proofs.YtpfgjagpaddcpaaW.PrintWords Go.Proofs.YtpfgjagpaddcpaaW.PrintLast Go.Proofs.YtpfgjagpaddcpaaW.PrintMore
open Go.Proofs.Ytpfgjagpaddcpaa.X
set_option linter.unusedVariables false
set_option linter.unusedSimpArgs false

theorem infoP : (Try.prog.info? 23).map (fun i => (i.zero, i.size, i.bytes)) = some (some (.agg #[(.int .i64 0), (.int .i64 0)]), 2, 16) := by kernel_rfl

/-- An empty literal is a row of one's own. -/
theorem R_void {α : Type} (d : Kd α) (e : Nat) {w : World} {base g : Nat} (hb : base ≤ g) (h : w.heap[g]? = some (.cells #[] e (0, 0))) : d.R e w base (fun _ => True) (.slice (some ⟨g, 0, none⟩) 0 0) [] := by
  refine ⟨fun _ _ => trivial, [], ⟨by simp, Or.inr ⟨g, 0, #[], rfl, hb, h, Nat.le_refl _, by decide, by simp, by simp⟩⟩, Reps.none _ _⟩

theorem run_eql_slice_nil {P : Program} (w : World) (t e : TypeId) (a : Option Addr) (l c : Nat) (h : P.underlying t = some (.slice e)) : (binOp .eql t (.slice a l c) (.slice none 0 0)).run P w = .ok (.bool a.isNone) w := by
  simp only [binOp]
  simp [run_equal_slice_nil w t e a l c h]
attribute [local go_sem] run_eql_slice_nil

set_option maxRecDepth 100000 in
theorem cloneR_any (A : Option Addr) (c : Nat) (l : List S23) (w : World) (hC : Kd.C k23 w A l.length l) (hl : l.length ≤ 8796093022208) :
    Calls Try.prog 76 #[.slice A l.length c] w fun e w' => (∃ v, e = .returned v ∧ Kd.R k23 23 w' w.heap.size (fun _ => True) v l) ∧ Below w.heap.size w w' := by
  have HC := Aside0.mk hC
  have hu47 := Try.underlying47
  cases A with
  | none =>
    have hl0 : l = [] := by
      cases l with
      | nil => rfl
      | cons a r => obtain ⟨ad, e, _⟩ := hC.2.2 (by simp); cases e
    clear hC
    subst hl0
    go_enter Try.func76, Try.ntmps76
    go_wp2_with fail
    go_ret
    exact ⟨⟨_, rfl, Kd.R_nil _ _ _ _ _⟩, Below.refl _ _⟩
  | some ad =>
    clear hC
    go_enter Try.func76, Try.ntmps76
    go_wp2_with (first | ((with_reducible refine gate_builtin (b := .append) (xs := #[.tmp 5, .tmp 6]) rfl ?_); at_builtin; refine Kd.R_append_rows k23 (w0 := w) w.heap.size rfl (.tmp 5) (.tmp 6) 47 23 (.agg #[(.int .i64 0), (.int .i64 0)]) 16 rfl Try.underlying47 infoP rfl (by decide) (by omega) (.slice (some ⟨w.heap.size, 0, none⟩) 0 0) ([] : List S23) l (some ad) l.length c (fun _ => True) (fun _ => False) rfl rfl (R_void k23 23 (Nat.le_refl _) (blk_new w _)) (Kd.C_below HC.out (below_alloc (Below.refl _ _) _)) ?aK (fun _ h => h.elim) (fun _ _ => trivial) (below_alloc (Below.refl _ _) _) (by simp) ?aL ?_; (case aK => intro p cs hp; obtain rfl := k23_open hp; exact k23_mkM _ _ _ _); (case aL => simp only [List.length_nil]; omega); intro v1 w1 ho hb hg hat))
    go_ret
    exact ⟨⟨_, rfl, ho⟩, hb⟩
end Go.Proofs.Ytpfgjagpaddcpaa.Own

/-! Rings in memory of their own; input.Clone. -/
namespace Go.Proofs.Ytpfgjagpaddcpaa.Own
open Go.RowKit Go.Proofs.YtpfgjagpaddcpaaW.PrintWords Go.Proofs.YtpfgjagpaddcpaaW.PrintLast Go.Proofs.YtpfgjagpaddcpaaW.PrintMore
open Go.Proofs.Ytpfgjagpaddcpaa.X
set_option linter.unusedVariables false
set_option linter.unusedSimpArgs false

set_option maxRecDepth 100000 in
theorem copied_any (A : Option Addr) (c : Nat) (ls : List (List S23)) (w : World) (hA : Kd.C (Kd.slice 23 k23) w A ls.length ls) (hm : ls.length ≤ 1000000000000) (hm2 : ∀ r ∈ ls, r.length ≤ 8796093022208) :
    Calls Try.prog 67 #[.slice A ls.length c] w fun e w' => (∃ v, e = .returned v ∧ Kd.R (Kd.slice 23 k23) 47 w' w.heap.size (fun _ => True) v ls) ∧ Below w.heap.size w w' := by
  have HA := Aside0.mk hA
  clear hA
  have hu35 := Try.underlying35
  go_enter Try.func67, Try.ntmps67
  go_wp2_with fail
  go_loopw [3, 8] (fun v i wr => ∃ x : Int, i = .int .i64 x ∧ Aside0 (0 ≤ x ∧ x ≤ ls.length) ∧ Aside0 (Kd.R (Kd.slice 23 k23) 47 wr w.heap.size (fun _ => True) v (ls.take x.toNat)) ∧ Aside0 (Below w.heap.size w wr)) (fun _ i _ => ls.length - (intOf i).toNat)
  case atStart => exact ⟨0, rfl, ⟨by omega, by omega⟩, ⟨Kd.R_nil _ _ _ _ _⟩, ⟨Below.refl _ _⟩⟩
  case round =>
    obtain ⟨x, rfl, HX, HO, HB⟩ := hrel
    obtain ⟨h0, h1⟩ := HX.out
    clear HX
    by_cases hlt : x < (ls.length : Int)
    · have c3b0 : decide (x < (ls.length : Int)) = true := decide_eq_true hlt
      obtain ⟨ad, A0, c0, e1, hx0, hc0, hC0⟩ := at_L2 HA.out x h0 hlt
      cases e1
      replace hx0 := cell_on HB.out hx0
      have hml := hm2 (rd_L2 ls x) (by
        unfold rd_L2
        rw [List.getD_eq_getElem?_getD, List.getElem?_eq_getElem (by omega)]
        exact List.getElem_mem _)
      have HT := Aside0.mk (show ls.take x.toNat ++ [rd_L2 ls x] = ls.take (x + 1).toNat by
        rw [show (x + 1).toNat = x.toNat + 1 by omega, List.take_add_one, List.getElem?_eq_getElem (by omega)]
        simp [rd_L2, List.getD_eq_getElem?_getD, List.getElem?_eq_getElem (show x.toNat < ls.length by omega)])
      obtain ⟨r, hr⟩ : ∃ r, rd_L2 ls x = r := ⟨_, rfl⟩
      rw [hr] at hx0 hc0 hC0 hml HT
      have HC1 := Aside0.mk (Kd.C_below hC0 HB.out)
      clear hC0 hr
      have p1 := eq_true h0
      have p2 := eq_true hlt
      have hlen : (ls.take x.toNat).length = x.toNat := by rw [List.length_take]; omega
      obtain ⟨Av, cv, hv⟩ := Kd.R_slice HO.out
      rw [hlen] at hv
      subst hv
      go_wp2_with fail
      refine (cloneR_any A0 c0 r _ HC1.out hml).mono ?_
      rintro e w1 ⟨⟨v1, rfl, hR1⟩, hb1⟩
      obtain ⟨A1, c1, hv1⟩ := Kd.R_slice hR1
      subst hv1
      have HR1 := Aside0.mk (Kd.R_newR hR1 HO.out)
      have HO1 := Aside0.mk (Kd.R_below HO.out hb1)
      have HB1 := Aside0.mk (below_step HB.out hb1)
      have hbs := Aside0.mk (below_size HB.out)
      have hbs1 := Aside0.mk (below_size HB1.out)
      clear hR1 hb1
      go_wp2_with (first | ((with_reducible refine gate_builtin (b := .append) (xs := #[.tmp 12, .tmp 15]) rfl ?_); at_builtin; refine Kd.R_append (Kd.slice 23 k23) (w0 := w) w.heap.size rfl (.tmp 12) (.tmp 15) 35 47 (.slice none 0 0) 24 rfl Try.underlying35 info47' rfl (by decide) (by omega) _ (ls.take x.toNat) r [.slice A1 r.length c1] (fun _ => True) (fun k => True ∧ some k ≠ _) rfl rfl ⟨_, rfl, Kd.R_lower HR1.out hbs.out⟩ (fun _ hk => ⟨trivial, hk.2⟩) (fun _ _ => trivial) HO1.out HB1.out hbs1.out ?aL ?_; (case aL => rw [hlen]; omega); intro v2 w2 ho hb hg hat))
      go_roundw
      case rel => exact ⟨x + 1, by go_num, ⟨by omega, by omega⟩, ⟨by rw [← HT.out]; exact ho⟩, ⟨hb⟩⟩
      case measure => simp [intOf]; omega
    · have c3b0 : decide (x < (ls.length : Int)) = false := decide_eq_false hlt
      obtain rfl : x = ls.length := by omega
      have HE := Aside0.mk (show ls.take (ls.length : Int).toNat = ls by rw [Int.toNat_natCast]; exact List.take_length)
      rw [HE.out] at HO
      go_wp2_with fail
      go_ret
      exact ⟨⟨_, rfl, HO.out⟩, HB.out⟩
end Go.Proofs.Ytpfgjagpaddcpaa.Own

/-! input.Clone. -/
namespace Go.Proofs.Ytpfgjagpaddcpaa.Own
open Go.RowKit Go.Proofs.YtpfgjagpaddcpaaW.PrintWords Go.Proofs.YtpfgjagpaddcpaaW.PrintLast Go.Proofs.YtpfgjagpaddcpaaW.PrintMore
open Go.Proofs.Ytpfgjagpaddcpaa.X
set_option linter.unusedVariables false
set_option linter.unusedSimpArgs false

set_option maxRecDepth 100000 in
set_option maxHeartbeats 8000000 in
theorem clone_any (A B : Option Addr) (ca cb : Nat) (la lb : List (List S23)) (o f r c : Int) (w : World) (hA : Kd.C (Kd.slice 23 k23) w A la.length la) (hB : Kd.C (Kd.slice 23 k23) w B lb.length lb)
    (hma : la.length ≤ 1000000000000) (hmb : lb.length ≤ 1000000000000) (hma2 : ∀ r ∈ la, r.length ≤ 8796093022208) (hmb2 : ∀ r ∈ lb, r.length ≤ 8796093022208) :
    Calls Try.prog 49 #[.agg #[.slice A la.length ca, .slice B lb.length cb, .int .i64 o, .int .i64 f, .int .i64 r, .int .i64 c]] w fun e w' =>
      (∃ v1 v2 m, e = .returned (.agg #[v1, v2, .int .i64 o, .int .i64 f, .int .i64 r, .int .i64 c]) ∧ w.heap.size ≤ m ∧ Kd.R (Kd.slice 23 k23) 47 w' w.heap.size (fun k => k < m) v1 la ∧ Kd.R (Kd.slice 23 k23) 47 w' m (fun _ => True) v2 lb) ∧ Below w.heap.size w w' := by
  have HA := Aside0.mk hA
  have HB := Aside0.mk hB
  have hu41 := Try.underlying41
  have hu35 := Try.underlying35
  have hmx : Try.prog.follows .mixedOrders = true := by kernel_rfl
  clear hA hB
  go_enter Try.func49, Try.ntmps49
  go_wp2_with fail
  have kb := blk_new w (.cells #[.slice A la.length ca, .slice B lb.length cb, .int .i64 o, .int .i64 f, .int .i64 r, .int .i64 c] 41)
  have kc := blk_new (w.alloc (.cells #[.slice A la.length ca, .slice B lb.length cb, .int .i64 o, .int .i64 f, .int .i64 r, .int .i64 c] 41)) (.cells #[.slice none 0 0, .slice none 0 0, .int .i64 0, .int .i64 0, .int .i64 0, .int .i64 0] 41)
  have kb2 := (Below.heap_alloc (w.alloc (.cells #[.slice A la.length ca, .slice B lb.length cb, .int .i64 o, .int .i64 f, .int .i64 r, .int .i64 c] 41)) (.cells #[.slice none 0 0, .slice none 0 0, .int .i64 0, .int .i64 0, .int .i64 0, .int .i64 0] 41) w.heap.size (by simp)).trans kb
  rw [World.size_alloc] at kc
  have hW := below_alloc (below_alloc (Below.refl w.heap.size w) (.cells #[.slice A la.length ca, .slice B lb.length cb, .int .i64 o, .int .i64 f, .int .i64 r, .int .i64 c] 41)) (.cells #[.slice none 0 0, .slice none 0 0, .int .i64 0, .int .i64 0, .int .i64 0, .int .i64 0] 41)
  have HW := Aside0.mk hW
  have KB := Aside0.mk kb2
  have KC := Aside0.mk kc
  have hsz : ((w.alloc (.cells #[.slice A la.length ca, .slice B lb.length cb, .int .i64 o, .int .i64 f, .int .i64 r, .int .i64 c] 41)).alloc (.cells #[.slice none 0 0, .slice none 0 0, .int .i64 0, .int .i64 0, .int .i64 0, .int .i64 0] 41)).heap.size = w.heap.size + 2 := by simp
  have HSZ := Aside0.mk hsz
  clear kb kc kb2 hW hsz
  generalize (w.alloc (.cells #[.slice A la.length ca, .slice B lb.length cb, .int .i64 o, .int .i64 f, .int .i64 r, .int .i64 c] 41)).alloc (.cells #[.slice none 0 0, .slice none 0 0, .int .i64 0, .int .i64 0, .int .i64 0, .int .i64 0] 41) = W at HW KB KC HSZ ⊢
  have q0 := cell0 0 KB.out rfl; have q1 := cell0 1 KB.out rfl; have g0 := blk_frozen KB.out 0; have g1 := blk_frozen KB.out 1
  go_region_with (first | (go_at_call_has 67 ca; refine (copied_any A ca la _ (Kd.C_below HA.out (below_step HW.out (by repeat (first | exact Below.refl _ _ | assumption | apply below_drew1)))) hma hma2).mono ?_; rintro e w2 ⟨⟨v1, rfl, hR1⟩, hb1⟩; obtain ⟨A1, c1, hv1⟩ := Kd.R_slice hR1; subst hv1; have hX1 : Below W.heap.size W w2 := below_step (by repeat (first | exact Below.refl _ _ | assumption | apply below_drew1)) hb1; have HR1 := Aside0.mk hR1; have z0 := cell_on hX1 q0; have z1 := cell_on hX1 q1; have z2 := blk_frozen (blk_below KB.out hX1) 0; have z3 := blk_frozen (blk_below KB.out hX1) 1; clear hR1) | (go_at_call_has 67 cb; refine (copied_any B cb lb _ (Kd.C_below HB.out (below_step HW.out (by repeat (first | exact Below.refl _ _ | assumption | apply below_drew1)))) hmb hmb2).mono ?_; rintro e w3 ⟨⟨v2, rfl, hR2⟩, hb2⟩; obtain ⟨A2, c2, hv2⟩ := Kd.R_slice hR2; subst hv2; have hX2 : Below W.heap.size W w3 := below_step (by assumption) hb2; have HR2 := Aside0.mk hR2; have HR1b := Aside0.mk (Kd.R_below HR1.out hb2); have y0 := cell_on hX2 q0; have y1 := cell_on hX2 q1; have y2 := blk_frozen (blk_below KB.out hX2) 0; have y3 := blk_frozen (blk_below KB.out hX2) 1; clear hR2))
  all_goals
    have KV := Aside0.mk (blk_set (blk_set (blk_below KB.out hX2) 0 (.slice A1 la.length c1)) 1 (.slice A2 lb.length c2))
    have KW := Aside0.mk ((Go.Deep.blk_setCell_other (w3.setCell ⟨w.heap.size, 0, none⟩ (.slice A1 la.length c1)) ⟨w.heap.size, 1, none⟩ (.slice A2 lb.length c2) (w.heap.size + 1) (by simp)).trans ((Go.Deep.blk_setCell_other w3 ⟨w.heap.size, 0, none⟩ (.slice A1 la.length c1) (w.heap.size + 1) (by simp)).trans (blk_below KC.out hX2)))
    have HV := Aside0.mk (below_set (below_set (below_step HW.out hX2) (Nat.le_refl _) (j := 0) (v := .slice A1 la.length c1)) (Nat.le_refl _) (j := 1) (v := .slice A2 lb.length c2))
    have hsz := HSZ.out
    have R1 := Kd.R_far (Kd.R_far (Kd.R_lower (Kd.R_mono (Kd.R_below (Kd.R_bound HR1.out) hb2) (ok' := fun k => w.heap.size + 2 ≤ k ∧ k < w2.heap.size) (fun k hk => ⟨by have := hk.2.1; (try simp at this); omega, hk.2.2.1⟩)) (show w.heap.size ≤ _ by simp; omega)) (p := ⟨w.heap.size, 0, none⟩) (fun k hk => by have := hk.1; simp; omega) (.slice A1 la.length c1)) (p := ⟨w.heap.size, 1, none⟩) (fun k hk => by have := hk.1; simp; omega) (.slice A2 lb.length c2)
    have hX1s := hX1.size
    have R2 := Kd.R_far (Kd.R_far (Kd.R_mono (Kd.R_bound HR2.out) (ok' := fun k => w.heap.size + 2 ≤ k) (fun k hk => by have := hk.2.1; (try simp at this); omega)) (p := ⟨w.heap.size, 0, none⟩) (fun k hk => by simp; omega) (.slice A1 la.length c1)) (p := ⟨w.heap.size, 1, none⟩) (fun k hk => by simp; omega) (.slice A2 lb.length c2)
    have hml : w.heap.size ≤ w2.heap.size := by omega
    have HR1' := Aside0.mk R1
    have HR2' := Aside0.mk R2
    clear R1 R2 q0 q1 g0 g1 z0 z1 z2 z3 y0 y1 y2 y3 hX1s
    change Exit.then _ _ Exit.normal _ _
    generalize (w3.setCell ⟨w.heap.size, 0, none⟩ (.slice A1 la.length c1)).setCell ⟨w.heap.size, 1, none⟩ (.slice A2 lb.length c2) = V at KV KW HV HR1' HR2' ⊢
    have x0 := cell0 0 KV.out rfl; have x1 := cell0 1 KV.out rfl; have x2 := cell0 2 KV.out rfl; have x3 := cell0 3 KV.out rfl; have x4 := cell0 4 KV.out rfl; have x5 := cell0 5 KV.out rfl
    have f0 := blk_frozen KW.out 0; have f1 := blk_frozen KW.out 1; have f2 := blk_frozen KW.out 2; have f3 := blk_frozen KW.out 3; have f4 := blk_frozen KW.out 4; have f5 := blk_frozen KW.out 5
    have y0 := cell0 0 KW.out rfl; have y1 := cell0 1 KW.out rfl; have y2 := cell0 2 KW.out rfl; have y3 := cell0 3 KW.out rfl; have y4 := cell0 4 KW.out rfl; have y5 := cell0 5 KW.out rfl
    go_wp2_with fail
    have KF := blk_set (blk_set (blk_set (blk_set (blk_set (blk_set KW.out 0 (.slice A1 la.length c1)) 1 (.slice A2 lb.length c2)) 2 (.int .i64 o)) 3 (.int .i64 f)) 4 (.int .i64 r)) 5 (.int .i64 c)
    have HF := below_set (below_set (below_set (below_set (below_set (below_set HV.out (Nat.le_succ w.heap.size) (j := 0) (v := .slice A1 la.length c1)) (Nat.le_succ w.heap.size) (j := 1) (v := .slice A2 lb.length c2)) (Nat.le_succ w.heap.size) (j := 2) (v := .int .i64 o)) (Nat.le_succ w.heap.size) (j := 3) (v := .int .i64 f)) (Nat.le_succ w.heap.size) (j := 4) (v := .int .i64 r)) (Nat.le_succ w.heap.size) (j := 5) (v := .int .i64 c)
    have F1 := Kd.R_far (Kd.R_far (Kd.R_far (Kd.R_far (Kd.R_far (Kd.R_far HR1'.out (p := ⟨w.heap.size + 1, 0, none⟩) (fun k hk => by have := hk.1; simp; omega) (.slice A1 la.length c1)) (p := ⟨w.heap.size + 1, 1, none⟩) (fun k hk => by have := hk.1; simp; omega) (.slice A2 lb.length c2)) (p := ⟨w.heap.size + 1, 2, none⟩) (fun k hk => by have := hk.1; simp; omega) (.int .i64 o)) (p := ⟨w.heap.size + 1, 3, none⟩) (fun k hk => by have := hk.1; simp; omega) (.int .i64 f)) (p := ⟨w.heap.size + 1, 4, none⟩) (fun k hk => by have := hk.1; simp; omega) (.int .i64 r)) (p := ⟨w.heap.size + 1, 5, none⟩) (fun k hk => by have := hk.1; simp; omega) (.int .i64 c)
    have F2 := Kd.R_far (Kd.R_far (Kd.R_far (Kd.R_far (Kd.R_far (Kd.R_far HR2'.out (p := ⟨w.heap.size + 1, 0, none⟩) (fun k hk => by simp; omega) (.slice A1 la.length c1)) (p := ⟨w.heap.size + 1, 1, none⟩) (fun k hk => by simp; omega) (.slice A2 lb.length c2)) (p := ⟨w.heap.size + 1, 2, none⟩) (fun k hk => by simp; omega) (.int .i64 o)) (p := ⟨w.heap.size + 1, 3, none⟩) (fun k hk => by simp; omega) (.int .i64 f)) (p := ⟨w.heap.size + 1, 4, none⟩) (fun k hk => by simp; omega) (.int .i64 r)) (p := ⟨w.heap.size + 1, 5, none⟩) (fun k hk => by simp; omega) (.int .i64 c)
    clear x0 x1 x2 x3 x4 x5 f0 f1 f2 f3 f4 f5 y0 y1 y2 y3 y4 y5
    generalize ((((((V.setCell ⟨w.heap.size + 1, 0, none⟩ (.slice A1 la.length c1)).setCell ⟨w.heap.size + 1, 1, none⟩ (.slice A2 lb.length c2)).setCell ⟨w.heap.size + 1, 2, none⟩ (.int .i64 o)).setCell ⟨w.heap.size + 1, 3, none⟩ (.int .i64 f)).setCell ⟨w.heap.size + 1, 4, none⟩ (.int .i64 r)).setCell ⟨w.heap.size + 1, 5, none⟩ (.int .i64 c)) = F at KF HF F1 F2 ⊢
    have y0 := cell0 0 KF rfl; have y1 := cell0 1 KF rfl; have y2 := cell0 2 KF rfl; have y3 := cell0 3 KF rfl; have y4 := cell0 4 KF rfl; have y5 := cell0 5 KF rfl
    refine bodyPost_ret (v := .agg #[.slice A1 la.length c1, .slice A2 lb.length c2, .int .i64 o, .int .i64 f, .int .i64 r, .int .i64 c]) ?_ rfl ?_
    · have hres : Try.f49.results = #[.cell 2 41] := rfl
      simp only [results, hres]
      simp [go_sem, y0, y1, y2, y3, y4, y5, hu41]
    · exact ⟨⟨_, _, w2.heap.size, rfl, hml, Kd.R_mono F1 (fun k hk => hk.2), Kd.R_mono F2 (fun _ _ => trivial)⟩, HF⟩
end Go.Proofs.Ytpfgjagpaddcpaa.Own
