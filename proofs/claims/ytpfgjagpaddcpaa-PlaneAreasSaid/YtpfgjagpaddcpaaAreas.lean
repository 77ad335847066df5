import Derived.Test.YtpfgjagpaddcpaaE2
/-! PlaneAreas, walked. -/
namespace Go.Proofs.Ytpfgjagpaddcpaa.Own
open Go.RowKit Go.Proofs.YtpfgjagpaddcpaaW.PrintWords Go.Proofs.YtpfgjagpaddcpaaW.PrintLast Go.Proofs.YtpfgjagpaddcpaaW.PrintMore
open Go.Proofs.Ytpfgjagpaddcpaa.X
set_option linter.unusedVariables false
set_option linter.unusedSimpArgs false

theorem info23' : (Try.prog.info? 23).map (fun i => (i.zero, i.size, i.bytes)) = some (some (.agg #[(.int .i64 0), (.int .i64 0)]), 2, 16) := by kernel_rfl

theorem rev_step (l : List S23) (x : Int) (h0 : 0 ≤ x) (h1 : x < l.length) : l.reverse.take x.toNat ++ [rd_T23 l ((l.length : Int) - 1 - x)] = l.reverse.take (x + 1).toNat := by
  obtain ⟨n, rfl⟩ := Int.eq_ofNat_of_zero_le h0
  have hn : n < l.length := by omega
  have e1 : ((n : Int) + 1).toNat = n + 1 := by omega
  have e2 : ((l.length : Int) - 1 - (n : Int)).toNat = l.length - 1 - n := by omega
  rw [e1, Int.toNat_natCast]
  have hg : l.reverse[n]? = some (rd_T23 l ((l.length : Int) - 1 - (n : Int))) := by
    unfold rd_T23
    rw [e2, List.getElem?_reverse hn, List.getD_eq_getElem?_getD, List.getElem?_eq_getElem (by omega)]
    rfl
  rw [take_succ_get _ _ _ hg]

theorem below_none {W w1 : World} (hg : W.grownBy w1 none) : Below W.heap.size W w1 := (Below.refl _ W).grown hg (Nat.le_refl _) (fun j hj => by cases hj)

theorem area_any_n (A : Option Addr) (c : Nat) (l : List S23) (w : World) (n : Nat) (hn : l.length = n) (hr : Kd.C k23 w A l.length l) (hc : l.length ≤ c) :
    Calls Try.prog 42 #[.slice A n c] w fun e w' => e = .returned (.int .i64 (areaB l)) ∧ Below w.heap.size w w' := by
  subst hn
  exact area_any A c l w hr hc hr.2.1

set_option maxHeartbeats 8000000 in
set_option maxRecDepth 100000 in
theorem areas_in (w : World) (A : Option Addr) (c : Nat) (l : List S23) (at_ : Int) (hc : l.length ≤ c) (hr : Kd.C k23 w A l.length l) (hl : l.length ≤ 300) (h0 : 0 ≤ at_) (h1 : at_ < l.length) :
    Calls Try.prog 10 #[.slice A l.length c, .int .i64 at_] w fun e w' => e = .returned (.bool true) ∧ Below w.heap.size w w' := by
  have HLr := Aside0.mk hr
  clear hr
  have HL0 := HLr
  have NR := Aside0.mk (areaB_rev l)
  have NQ := Aside0.mk (show eqPts l l = true by unfold eqPts samePt; simp)
  have NT := Aside0.mk (show areaB (l.drop at_.toNat ++ l.take at_.toNat) = areaB l by rw [areaB_rot, List.take_append_drop])
  have hd1 : decide (300 < (l.length : Int)) = false := decide_eq_false (by omega)
  go_enter Try.func10, Try.ntmps10
  go_wp2_with fail
  refine (area_any A c l _ HLr.out hc HLr.out.2.1).mono ?_
  rintro e w1 ⟨rfl, hb⟩
  replace HLr := Aside0.mk (Kd.C_below HLr.out hb)
  have HB := Aside0.mk hb
  clear hb
  go_wp2_with fail
  go_loopw [6, 27] (fun v i wr => ∃ x : Int, i = .int .i64 x ∧ Aside0 (0 ≤ x ∧ x ≤ l.length) ∧ Aside0 (Kd.R k23 23 wr w.heap.size (fun _ => True) v (l.reverse.take x.toNat)) ∧ Aside0 (Kd.C k23 wr A l.length l) ∧ Aside0 (Below w.heap.size w wr)) (fun _ i _ => l.length - (intOf i).toNat)
  case atStart => exact ⟨0, rfl, ⟨by omega, by omega⟩, ⟨Kd.R_nil _ _ _ _ _⟩, HLr, HB⟩
  case round =>
    obtain ⟨x, rfl, HX, HO, HLr', HB'⟩ := hrel
    clear HLr HB
    have HLr := HLr'
    have HB := HB'
    clear HLr' HB'
    obtain ⟨hx0, hx1⟩ := HX.out
    clear HX
    by_cases hlt : x < (l.length : Int)
    · have c3b0 : decide (x < (l.length : Int)) = true := decide_eq_true hlt
      obtain ⟨ad, e1, g0, g1⟩ := at_T23 HLr.out ((l.length : Int) - 1 - x) (by omega) (by omega)
      cases e1
      have p0 : 0 ≤ (l.length : Int) - 1 - x := by omega
      have p1 : (l.length : Int) - 1 - x < (l.length : Int) := by omega
      have hbs := Aside0.mk (below_size HB.out)
      go_wp2_with (first | ((with_reducible refine gate_builtin (b := .append) (xs := #[.tmp 30, .tmp 39]) rfl ?_); at_builtin; refine Kd.R_append k23 (w0 := w) w.heap.size rfl (.tmp 30) (.tmp 39) 46 23 (.agg #[(.int .i64 0), (.int .i64 0)]) 16 rfl Try.underlying46 info23' rfl (by decide) (by omega) _ (l.reverse.take x.toNat) (⟨(rd_T23 l ((l.length : Int) - 1 - x)).f0, (rd_T23 l ((l.length : Int) - 1 - x)).f1⟩ : S23) [.int .i64 ((rd_T23 l ((l.length : Int) - 1 - x)).f0), .int .i64 ((rd_T23 l ((l.length : Int) - 1 - x)).f1)] (fun _ => True) (fun _ => False) rfl rfl (k23_mkM _ _ _ _) (fun _ hk => hk.elim) (fun _ _ => trivial) HO.out HB.out hbs.out ?aL ?_; (case aL => simp only [List.length_take, List.length_reverse]; omega); intro v1 w2 ho hb hg hat))
      go_roundw
      case rel =>
        refine ⟨x + 1, by go_num, ⟨by omega, by omega⟩, ⟨?_⟩, ⟨?_⟩, ⟨hb⟩⟩
        · rw [← rev_step l x hx0 hlt]
          exact ho
        · exact Kd.C_below (w := w) (by exact HL0.out) (hb.mono (Nat.le_refl _))
      case measure => simp [intOf]; omega
    · have c3b0 : decide (x < (l.length : Int)) = false := decide_eq_false hlt
      obtain rfl : x = l.length := by omega
      clear hx0 hx1 hlt
      have HBk0 := HO.out
      rw [show l.reverse.take ((l.length : Int)).toNat = l.reverse by rw [Int.toNat_natCast]; exact List.take_of_length_le (by simp)] at HBk0
      obtain ⟨A6, c6, hv, hc6, HBk1⟩ := Kd.R_reads HBk0
      rw [List.length_reverse] at hv hc6
      subst hv
      have HBk := Aside0.mk HBk1
      clear HBk1 HBk0 HO
      have hat0 : decide (0 ≤ at_) = true := decide_eq_true h0
      have hat1 : decide (at_ < (l.length : Int)) = true := decide_eq_true h1
      go_wp2_with fail
      obtain ⟨i035, hi035, _, hsz35, _⟩ := info_parts info23'
      have hcut35 := cut_from (P := Try.prog) 46 23 .i64 Try.underlying46 hi035 2 hsz35 A l.length c at_ h0 (by omega)
      have hr35 := Kd.C_drop (m := at_.toNat) (c := c) HLr.out (by omega) hc
      obtain ⟨A35, hA35⟩ : ∃ A1, A1 = (if c = at_.toNat then A else A.map (·.add (at_.toNat * 2))) := ⟨_, rfl⟩
      obtain ⟨c35, hc35⟩ : ∃ c1, c1 = c - at_.toNat := ⟨_, rfl⟩
      obtain ⟨ys, hys⟩ : ∃ y, y = l.drop at_.toNat := ⟨_, rfl⟩
      obtain ⟨zs, hzs⟩ : ∃ y, y = l.take at_.toNat := ⟨_, rfl⟩
      have hy35 : ys.length = l.length - at_.toNat := by rw [hys, List.length_drop]
      have hz35 : zs.length = at_.toNat := by rw [hzs, List.length_take]; omega
      rw [← hys] at hr35
      replace hr35 : Kd.C k23 wr A35 ys.length ys := by rw [hA35]; exact hr35
      rw [← hy35, ← hA35, ← hc35] at hcut35
      have hcut36 := cut_to (P := Try.prog) 46 23 .i64 Try.underlying46 hi035 A l.length c at_ h0 (by omega) hc
      have hr36 := Kd.C_take (m := at_.toNat) HLr.out (by omega)
      rw [← hzs] at hr36
      rw [← hz35] at hcut36
      have NT' := Aside0.mk (show areaB (ys ++ zs) = areaB l by rw [hys, hzs]; exact NT.out)
      have ly : ys.length ≤ 300 := by omega
      have lz : zs.length ≤ 300 := by omega
      clear NT hA35 hc35 hys hzs hy35 hz35 hi035 hsz35 hd1 hat0 hat1
      have NT := NT'
      clear NT'
      have HR1 := Aside0.mk (Kd.C_drew hr35)
      have HR2 := Aside0.mk (Kd.C_drew hr36)
      replace HB := Aside0.mk (below_drew1 HB.out)
      replace HLr := Aside0.mk (Kd.C_drew HLr.out)
      replace HBk := Aside0.mk (Kd.C_drew HBk.out)
      clear hr35 hr36
      refine start_ (n := 10) (S := fun w' => True) (ds := []) #[false, false, false, false, false, false, false, false, false, false] (by kernel_rfl) rfl rfl trivial (fun hHeld => ?_)
      generalize wr.drew = W0 at HB HLr HBk HR1 HR2 hHeld ⊢
      refine pure_ (i := 0) (N := some 50) (v := ?_) (a' := ?_) #[true, false, false, false, false, false, false, false, false, false] rfl rfl (by kernel_rfl) (fun _ _ _ h => h) (Or.inl ⟨by rfl, ?_⟩) ?_ ?_
      rotate_left
      · intro w'
        go_simp
        with_reducible rfl
      rotate_left
      · simp only [Act.put, List.setIfInBounds_toArray, List.set_cons_zero, List.set_cons_succ, i64_w, i32_w]
        rfl
      refine pure_ (i := 1) (N := some 51) (v := ?_) (a' := ?_) #[true, true, false, false, false, false, false, false, false, false] rfl rfl (by kernel_rfl) (fun _ _ _ h => h) (Or.inl ⟨by rfl, ?_⟩) ?_ ?_
      rotate_left
      · intro w'
        go_simp
        with_reducible rfl
      rotate_left
      · simp only [Act.put, List.setIfInBounds_toArray, List.set_cons_zero, List.set_cons_succ, i64_w, i32_w]
        rfl
      refine pure_ (i := 2) (N := some 52) (v := ?_) (a' := ?_) #[true, true, true, false, false, false, false, false, false, false] rfl rfl (by kernel_rfl) (fun _ _ _ h => h) (Or.inl ⟨by rfl, ?_⟩) ?_ ?_
      rotate_left
      · intro w'
        go_simp
        with_reducible rfl
      rotate_left
      · simp only [Act.put, List.setIfInBounds_toArray, List.set_cons_zero, List.set_cons_succ, i64_w, i32_w]
        rfl
      refine pure_ (i := 3) (N := some 53) (v := ?_) (a' := ?_) #[true, true, true, true, false, false, false, false, false, false] rfl rfl (by kernel_rfl) (fun _ _ _ h => h) (Or.inl ⟨by rfl, ?_⟩) ?_ ?_
      rotate_left
      · intro w'
        go_simp
        with_reducible rfl
      rotate_left
      · simp only [Act.put, List.setIfInBounds_toArray, List.set_cons_zero, List.set_cons_succ, i64_w, i32_w]
        rfl
      refine pure_ (i := 5) (N := some 55) (v := ?_) (a' := ?_) #[true, true, true, true, false, true, false, false, false, false] rfl rfl (by kernel_rfl) (fun _ _ _ h => h) (Or.inl ⟨by rfl, ?_⟩) ?_ ?_
      rotate_left
      · intro w'
        go_simp
        with_reducible rfl
      rotate_left
      · simp only [Act.put, List.setIfInBounds_toArray, List.set_cons_zero, List.set_cons_succ, i64_w, i32_w]
        rfl
      refine pure_ (i := 6) (N := some 56) (v := ?_) (a' := ?_) #[true, true, true, true, false, true, true, false, false, false] rfl rfl (by kernel_rfl) (fun _ _ _ h => h) (Or.inl ⟨by rfl, ?_⟩) ?_ ?_
      rotate_left
      · intro w'
        go_simp
        with_reducible rfl
      rotate_left
      · simp only [Act.put, List.setIfInBounds_toArray, List.set_cons_zero, List.set_cons_succ, i64_w, i32_w]
        rfl
      refine pure_ (i := 7) (N := some 57) (v := ?_) (a' := ?_) #[true, true, true, true, false, true, true, true, false, false] rfl rfl (by kernel_rfl) (fun _ _ _ h => h) (Or.inl ⟨by rfl, ?_⟩) ?_ ?_
      rotate_left
      · intro w'
        go_simp
        with_reducible rfl
      rotate_left
      · simp only [Act.put, List.setIfInBounds_toArray, List.set_cons_zero, List.set_cons_succ, i64_w, i32_w]
        rfl
      refine one_ (i := 4) (N := some 54) #[true, true, true, true, true, true, true, true, false, false] rfl rfl (by kernel_rfl) (by decide) (fun K hK => ?_)
      refine Kd.R_append_rows_step k23 (w0 := W0) W0.heap.size (by rfl) (.tmp 50) (.tmp 53) 46 23 (.agg #[(.int .i64 0), (.int .i64 0)]) 16 rfl Try.underlying46 info23' rfl (by decide) (by omega) (.slice none 0 0) ([] : List S23) ys _ _ _ (fun _ => True) (fun _ => False) rfl rfl (Kd.R_nil k23 23 W0 W0.heap.size _) HR1.out (fun _ _ h => h) (fun _ h => h.elim) (fun _ _ => trivial) ?aB ?aS ?aL ?_
      (case aB => exact Below.refl _ _)
      (case aS => exact Nat.le_refl _)
      (case aL => simp only [List.length_nil]; omega)
      intro v1 w1 ho1 hb1 hg1 hat1
      rw [List.nil_append] at ho1
      have HR2b := Aside0.mk (Kd.C_below HR2.out hb1)
      have HO1 := Aside0.mk ho1
      clear ho1
      refine hK.out _ _ trivial (fun hHeld => ?_)
      clear hK K
      refine norm_ (a' := ?_) ?_ ?_
      rotate_left
      · show Act.put _ (some 54) _ = _
        simp only [Act.put, List.setIfInBounds_toArray, List.set_cons_zero, List.set_cons_succ, i64_w, i32_w]
        rfl
      refine one_ (i := 8) (N := some 58) #[true, true, true, true, true, true, true, true, true, false] rfl rfl (by kernel_rfl) (by decide) (fun K hK => ?_)
      refine Kd.R_append_rows_step k23 (w0 := W0) W0.heap.size (by rfl) (.tmp 54) (.tmp 57) 46 23 (.agg #[(.int .i64 0), (.int .i64 0)]) 16 rfl Try.underlying46 info23' rfl (by decide) (by omega) v1 ys zs _ _ _ (fun _ => True) (fun _ => False) rfl rfl HO1.out HR2b.out (fun _ _ h => h) (fun _ h => h.elim) (fun _ _ => trivial) ?aB ?aS ?aL ?_
      (case aB => exact hb1)
      (case aS => exact hb1.size)
      (case aL => omega)
      intro v2 w2 ho2 hb2 hg2 hat2
      have HO2 := Aside0.mk ho2
      clear ho2 hg2 hat2 hg1 hat1
      refine hK.out _ _ trivial (fun hHeld => ?_)
      clear hK K
      refine norm_ (a' := ?_) ?_ ?_
      rotate_left
      · show Act.put _ (some 58) _ = _
        simp only [Act.put, List.setIfInBounds_toArray, List.set_cons_zero, List.set_cons_succ, i64_w, i32_w]
        rfl
      refine pure_ (i := 9) (N := some 7) (v := ?_) (a' := ?_) #[true, true, true, true, true, true, true, true, true, true] rfl rfl (by kernel_rfl) (fun _ _ _ h => h) (Or.inl ⟨by rfl, ?_⟩) ?_ ?_
      rotate_left
      · intro w'
        go_simp
        with_reducible rfl
      rotate_left
      · simp only [Act.put, List.setIfInBounds_toArray, List.set_cons_zero, List.set_cons_succ, i64_w, i32_w]
        rfl
      refine done_ (by kernel_rfl) ?_
      replace HB := Aside0.mk (below_step HB.out hb2)
      replace HLr := Aside0.mk (Kd.C_below HLr.out hb2)
      replace HBk := Aside0.mk (Kd.C_below HBk.out hb2)
      obtain ⟨A7, c7, hv7, hc7, HT0⟩ := Kd.R_reads HO2.out
      subst hv7
      have HT := Aside0.mk HT0
      clear HT0 HO2 HR1 HR2 HR2b hb2 hb1 HO1
      go_wp2_with fail
      refine (alive_any _).mono ?_
      rintro e w3 ⟨rfl, hb3⟩
      replace HB := Aside0.mk (below_step HB.out hb3); replace HLr := Aside0.mk (Kd.C_below HLr.out hb3); replace HBk := Aside0.mk (Kd.C_below HBk.out hb3); replace HT := Aside0.mk (Kd.C_below HT.out hb3)
      clear hb3
      go_wp2_with fail
      refine (refArea_any A c l _ HLr.out hc (by omega)).mono ?_
      rintro e w4 ⟨rfl, hb3⟩
      replace HB := Aside0.mk (below_step HB.out hb3); replace HLr := Aside0.mk (Kd.C_below HLr.out hb3); replace HBk := Aside0.mk (Kd.C_below HBk.out hb3); replace HT := Aside0.mk (Kd.C_below HT.out hb3)
      clear hb3
      go_wp2_with fail
      refine (area_any_n A6 c6 l.reverse _ l.length (by simp) HBk.out (by simp; omega)).mono ?_
      rintro e w5 ⟨rfl, hb3⟩
      rw [NR.out]
      replace HB := Aside0.mk (below_step HB.out hb3); replace HLr := Aside0.mk (Kd.C_below HLr.out hb3); replace HT := Aside0.mk (Kd.C_below HT.out hb3)
      clear hb3 HBk
      go_wp2_with fail
      refine (area_any_n A7 c7 (ys ++ zs) _ (ys.length + zs.length) (by simp) HT.out (by simpa using hc7)).mono ?_
      rintro e w6 ⟨rfl, hb3⟩
      rw [NT.out]
      replace HB := Aside0.mk (below_step HB.out hb3); replace HLr := Aside0.mk (Kd.C_below HLr.out hb3)
      clear hb3 HT
      go_wp2_with fail
      refine (equal_any A A c c l l _ HLr.out hc HLr.out hc HLr.out.2.1).mono ?_
      rintro e w7 ⟨rfl, hb3⟩
      rw [NQ.out]
      replace HB := Aside0.mk (below_step HB.out hb3)
      clear hb3
      go_wp2_with fail
      go_ret
      exact ⟨rfl, HB.out⟩

set_option maxHeartbeats 8000000 in
set_option maxRecDepth 100000 in
theorem areas_low (w : World) (A : Option Addr) (c : Nat) (l : List S23) (at_ : Int) (hc : l.length ≤ c) (hr : Kd.C k23 w A l.length l) (hl : l.length ≤ 300) (h0 : at_ < 0) :
    Calls Try.prog 10 #[.slice A l.length c, .int .i64 at_] w fun e w' => e = .returned (.bool true) ∧ Below w.heap.size w w' := by
  have HLr := Aside0.mk hr
  clear hr
  have HL0 := HLr
  have NR := Aside0.mk (areaB_rev l)
  have NQ := Aside0.mk (show eqPts l l = true by unfold eqPts samePt; simp)
  have hd1 : decide (300 < (l.length : Int)) = false := decide_eq_false (by omega)
  go_enter Try.func10, Try.ntmps10
  go_wp2_with fail
  refine (area_any A c l _ HLr.out hc HLr.out.2.1).mono ?_
  rintro e w1 ⟨rfl, hb⟩
  replace HLr := Aside0.mk (Kd.C_below HLr.out hb)
  have HB := Aside0.mk hb
  clear hb
  go_wp2_with fail
  go_loopw [6, 27] (fun v i wr => ∃ x : Int, i = .int .i64 x ∧ Aside0 (0 ≤ x ∧ x ≤ l.length) ∧ Aside0 (Kd.R k23 23 wr w.heap.size (fun _ => True) v (l.reverse.take x.toNat)) ∧ Aside0 (Kd.C k23 wr A l.length l) ∧ Aside0 (Below w.heap.size w wr)) (fun _ i _ => l.length - (intOf i).toNat)
  case atStart => exact ⟨0, rfl, ⟨by omega, by omega⟩, ⟨Kd.R_nil _ _ _ _ _⟩, HLr, HB⟩
  case round =>
    obtain ⟨x, rfl, HX, HO, HLr', HB'⟩ := hrel
    clear HLr HB
    have HLr := HLr'
    have HB := HB'
    clear HLr' HB'
    obtain ⟨hx0, hx1⟩ := HX.out
    clear HX
    by_cases hlt : x < (l.length : Int)
    · have c3b0 : decide (x < (l.length : Int)) = true := decide_eq_true hlt
      obtain ⟨ad, e1, g0, g1⟩ := at_T23 HLr.out ((l.length : Int) - 1 - x) (by omega) (by omega)
      cases e1
      have p0 : 0 ≤ (l.length : Int) - 1 - x := by omega
      have p1 : (l.length : Int) - 1 - x < (l.length : Int) := by omega
      have hbs := Aside0.mk (below_size HB.out)
      go_wp2_with (first | ((with_reducible refine gate_builtin (b := .append) (xs := #[.tmp 30, .tmp 39]) rfl ?_); at_builtin; refine Kd.R_append k23 (w0 := w) w.heap.size rfl (.tmp 30) (.tmp 39) 46 23 (.agg #[(.int .i64 0), (.int .i64 0)]) 16 rfl Try.underlying46 info23' rfl (by decide) (by omega) _ (l.reverse.take x.toNat) (⟨(rd_T23 l ((l.length : Int) - 1 - x)).f0, (rd_T23 l ((l.length : Int) - 1 - x)).f1⟩ : S23) [.int .i64 ((rd_T23 l ((l.length : Int) - 1 - x)).f0), .int .i64 ((rd_T23 l ((l.length : Int) - 1 - x)).f1)] (fun _ => True) (fun _ => False) rfl rfl (k23_mkM _ _ _ _) (fun _ hk => hk.elim) (fun _ _ => trivial) HO.out HB.out hbs.out ?aL ?_; (case aL => simp only [List.length_take, List.length_reverse]; omega); intro v1 w2 ho hb hg hat))
      go_roundw
      case rel =>
        refine ⟨x + 1, by go_num, ⟨by omega, by omega⟩, ⟨?_⟩, ⟨?_⟩, ⟨hb⟩⟩
        · rw [← rev_step l x hx0 hlt]
          exact ho
        · exact Kd.C_below (w := w) (by exact HL0.out) (hb.mono (Nat.le_refl _))
      case measure => simp [intOf]; omega
    · have c3b0 : decide (x < (l.length : Int)) = false := decide_eq_false hlt
      obtain rfl : x = l.length := by omega
      clear hx0 hx1 hlt
      have HBk0 := HO.out
      rw [show l.reverse.take ((l.length : Int)).toNat = l.reverse by rw [Int.toNat_natCast]; exact List.take_of_length_le (by simp)] at HBk0
      obtain ⟨A6, c6, hv, hc6, HBk1⟩ := Kd.R_reads HBk0
      rw [List.length_reverse] at hv hc6
      subst hv
      have HBk := Aside0.mk HBk1
      clear HBk1 HBk0 HO
      have hat0 : decide (0 ≤ at_) = false := decide_eq_false (by omega)
      have HT := HLr
      go_wp2_with fail
      refine (alive_any _).mono ?_
      rintro e w3 ⟨rfl, hb3⟩
      replace HB := Aside0.mk (below_step HB.out hb3); replace HLr := Aside0.mk (Kd.C_below HLr.out hb3); replace HBk := Aside0.mk (Kd.C_below HBk.out hb3); replace HT := Aside0.mk (Kd.C_below HT.out hb3)
      clear hb3
      go_wp2_with fail
      refine (refArea_any A c l _ HLr.out hc (by omega)).mono ?_
      rintro e w4 ⟨rfl, hb3⟩
      replace HB := Aside0.mk (below_step HB.out hb3); replace HLr := Aside0.mk (Kd.C_below HLr.out hb3); replace HBk := Aside0.mk (Kd.C_below HBk.out hb3); replace HT := Aside0.mk (Kd.C_below HT.out hb3)
      clear hb3
      go_wp2_with fail
      refine (area_any_n A6 c6 l.reverse _ l.length (by simp) HBk.out (by simp; omega)).mono ?_
      rintro e w5 ⟨rfl, hb3⟩
      rw [NR.out]
      replace HB := Aside0.mk (below_step HB.out hb3); replace HLr := Aside0.mk (Kd.C_below HLr.out hb3); replace HT := Aside0.mk (Kd.C_below HT.out hb3)
      clear hb3 HBk
      go_wp2_with fail
      refine (area_any A c l _ HT.out hc HT.out.2.1).mono ?_
      rintro e w6 ⟨rfl, hb3⟩
      skip
      replace HB := Aside0.mk (below_step HB.out hb3); replace HLr := Aside0.mk (Kd.C_below HLr.out hb3)
      clear hb3 HT
      go_wp2_with fail
      refine (equal_any A A c c l l _ HLr.out hc HLr.out hc HLr.out.2.1).mono ?_
      rintro e w7 ⟨rfl, hb3⟩
      rw [NQ.out]
      replace HB := Aside0.mk (below_step HB.out hb3)
      clear hb3
      go_wp2_with fail
      go_ret
      exact ⟨rfl, HB.out⟩

set_option maxHeartbeats 8000000 in
set_option maxRecDepth 100000 in
theorem areas_high (w : World) (A : Option Addr) (c : Nat) (l : List S23) (at_ : Int) (hc : l.length ≤ c) (hr : Kd.C k23 w A l.length l) (hl : l.length ≤ 300) (h0 : 0 ≤ at_) (h1 : l.length ≤ at_) :
    Calls Try.prog 10 #[.slice A l.length c, .int .i64 at_] w fun e w' => e = .returned (.bool true) ∧ Below w.heap.size w w' := by
  have HLr := Aside0.mk hr
  clear hr
  have HL0 := HLr
  have NR := Aside0.mk (areaB_rev l)
  have NQ := Aside0.mk (show eqPts l l = true by unfold eqPts samePt; simp)
  have hd1 : decide (300 < (l.length : Int)) = false := decide_eq_false (by omega)
  go_enter Try.func10, Try.ntmps10
  go_wp2_with fail
  refine (area_any A c l _ HLr.out hc HLr.out.2.1).mono ?_
  rintro e w1 ⟨rfl, hb⟩
  replace HLr := Aside0.mk (Kd.C_below HLr.out hb)
  have HB := Aside0.mk hb
  clear hb
  go_wp2_with fail
  go_loopw [6, 27] (fun v i wr => ∃ x : Int, i = .int .i64 x ∧ Aside0 (0 ≤ x ∧ x ≤ l.length) ∧ Aside0 (Kd.R k23 23 wr w.heap.size (fun _ => True) v (l.reverse.take x.toNat)) ∧ Aside0 (Kd.C k23 wr A l.length l) ∧ Aside0 (Below w.heap.size w wr)) (fun _ i _ => l.length - (intOf i).toNat)
  case atStart => exact ⟨0, rfl, ⟨by omega, by omega⟩, ⟨Kd.R_nil _ _ _ _ _⟩, HLr, HB⟩
  case round =>
    obtain ⟨x, rfl, HX, HO, HLr', HB'⟩ := hrel
    clear HLr HB
    have HLr := HLr'
    have HB := HB'
    clear HLr' HB'
    obtain ⟨hx0, hx1⟩ := HX.out
    clear HX
    by_cases hlt : x < (l.length : Int)
    · have c3b0 : decide (x < (l.length : Int)) = true := decide_eq_true hlt
      obtain ⟨ad, e1, g0, g1⟩ := at_T23 HLr.out ((l.length : Int) - 1 - x) (by omega) (by omega)
      cases e1
      have p0 : 0 ≤ (l.length : Int) - 1 - x := by omega
      have p1 : (l.length : Int) - 1 - x < (l.length : Int) := by omega
      have hbs := Aside0.mk (below_size HB.out)
      go_wp2_with (first | ((with_reducible refine gate_builtin (b := .append) (xs := #[.tmp 30, .tmp 39]) rfl ?_); at_builtin; refine Kd.R_append k23 (w0 := w) w.heap.size rfl (.tmp 30) (.tmp 39) 46 23 (.agg #[(.int .i64 0), (.int .i64 0)]) 16 rfl Try.underlying46 info23' rfl (by decide) (by omega) _ (l.reverse.take x.toNat) (⟨(rd_T23 l ((l.length : Int) - 1 - x)).f0, (rd_T23 l ((l.length : Int) - 1 - x)).f1⟩ : S23) [.int .i64 ((rd_T23 l ((l.length : Int) - 1 - x)).f0), .int .i64 ((rd_T23 l ((l.length : Int) - 1 - x)).f1)] (fun _ => True) (fun _ => False) rfl rfl (k23_mkM _ _ _ _) (fun _ hk => hk.elim) (fun _ _ => trivial) HO.out HB.out hbs.out ?aL ?_; (case aL => simp only [List.length_take, List.length_reverse]; omega); intro v1 w2 ho hb hg hat))
      go_roundw
      case rel =>
        refine ⟨x + 1, by go_num, ⟨by omega, by omega⟩, ⟨?_⟩, ⟨?_⟩, ⟨hb⟩⟩
        · rw [← rev_step l x hx0 hlt]
          exact ho
        · exact Kd.C_below (w := w) (by exact HL0.out) (hb.mono (Nat.le_refl _))
      case measure => simp [intOf]; omega
    · have c3b0 : decide (x < (l.length : Int)) = false := decide_eq_false hlt
      obtain rfl : x = l.length := by omega
      clear hx0 hx1 hlt
      have HBk0 := HO.out
      rw [show l.reverse.take ((l.length : Int)).toNat = l.reverse by rw [Int.toNat_natCast]; exact List.take_of_length_le (by simp)] at HBk0
      obtain ⟨A6, c6, hv, hc6, HBk1⟩ := Kd.R_reads HBk0
      rw [List.length_reverse] at hv hc6
      subst hv
      have HBk := Aside0.mk HBk1
      clear HBk1 HBk0 HO
      have hat0 : decide (0 ≤ at_) = true := decide_eq_true h0
      have hat1 : decide (at_ < (l.length : Int)) = false := decide_eq_false (by omega)
      have HT := HLr
      go_wp2_with fail
      refine (alive_any _).mono ?_
      rintro e w3 ⟨rfl, hb3⟩
      replace HB := Aside0.mk (below_step HB.out hb3); replace HLr := Aside0.mk (Kd.C_below HLr.out hb3); replace HBk := Aside0.mk (Kd.C_below HBk.out hb3); replace HT := Aside0.mk (Kd.C_below HT.out hb3)
      clear hb3
      go_wp2_with fail
      refine (refArea_any A c l _ HLr.out hc (by omega)).mono ?_
      rintro e w4 ⟨rfl, hb3⟩
      replace HB := Aside0.mk (below_step HB.out hb3); replace HLr := Aside0.mk (Kd.C_below HLr.out hb3); replace HBk := Aside0.mk (Kd.C_below HBk.out hb3); replace HT := Aside0.mk (Kd.C_below HT.out hb3)
      clear hb3
      go_wp2_with fail
      refine (area_any_n A6 c6 l.reverse _ l.length (by simp) HBk.out (by simp; omega)).mono ?_
      rintro e w5 ⟨rfl, hb3⟩
      rw [NR.out]
      replace HB := Aside0.mk (below_step HB.out hb3); replace HLr := Aside0.mk (Kd.C_below HLr.out hb3); replace HT := Aside0.mk (Kd.C_below HT.out hb3)
      clear hb3 HBk
      go_wp2_with fail
      refine (area_any A c l _ HT.out hc HT.out.2.1).mono ?_
      rintro e w6 ⟨rfl, hb3⟩
      skip
      replace HB := Aside0.mk (below_step HB.out hb3); replace HLr := Aside0.mk (Kd.C_below HLr.out hb3)
      clear hb3 HT
      go_wp2_with fail
      refine (equal_any A A c c l l _ HLr.out hc HLr.out hc HLr.out.2.1).mono ?_
      rintro e w7 ⟨rfl, hb3⟩
      rw [NQ.out]
      replace HB := Aside0.mk (below_step HB.out hb3)
      clear hb3
      go_wp2_with fail
      go_ret
      exact ⟨rfl, HB.out⟩

set_option maxHeartbeats 1000000 in
set_option maxRecDepth 100000 in
theorem areas_big1 (w : World) (A : Option Addr) (c : Nat) (l : List S23) (at_ : Int) (hc : l.length ≤ c) (hr : Kd.C k23 w A l.length l) (hl : 300 < l.length) (h2 : l.length ≤ 2000) :
    Calls Try.prog 10 #[.slice A l.length c, .int .i64 at_] w fun e w' => e = .returned (.bool true) ∧ Below w.heap.size w w' := by
  have hd1 : decide (300 < (l.length : Int)) = true := decide_eq_true (by omega)
  have hd2 : decide ((l.length : Int) ≤ 2000) = true := decide_eq_true (by omega)
  have hd3 : decide (l.length ≤ 2000) = true := decide_eq_true h2
  clear hr
  go_enter Try.func10, Try.ntmps10
  go_wp2_with fail
  refine (alive_any _).mono ?_
  rintro e w1 ⟨rfl, hb⟩
  go_wp2_with fail
  go_ret
  exact ⟨rfl, hb⟩

set_option maxHeartbeats 1000000 in
set_option maxRecDepth 100000 in
theorem areas_big2 (w : World) (A : Option Addr) (c : Nat) (l : List S23) (at_ : Int) (hc : l.length ≤ c) (hr : Kd.C k23 w A l.length l) (hl : 2000 < l.length) :
    Calls Try.prog 10 #[.slice A l.length c, .int .i64 at_] w fun e w' => e = .returned (.bool true) ∧ Below w.heap.size w w' := by
  have hd1 : decide (300 < (l.length : Int)) = true := decide_eq_true (by omega)
  have hd2 : decide ((l.length : Int) ≤ 2000) = false := decide_eq_false (by omega)
  have hd3 : decide (l.length ≤ 2000) = false := decide_eq_false (by omega)
  have HLr := Aside0.mk hr
  have NA := Aside0.mk (show areaB l = 0 by unfold areaB; rw [if_pos (Or.inl hl)])
  clear hr
  go_enter Try.func10, Try.ntmps10
  go_wp2_with fail
  refine (alive_any _).mono ?_
  rintro e w1 ⟨rfl, hb⟩
  replace HLr := Aside0.mk (Kd.C_below HLr.out hb)
  have HB := Aside0.mk hb
  clear hb
  go_wp2_with fail
  refine (area_any A c l _ HLr.out hc HLr.out.2.1).mono ?_
  rintro e w2 ⟨rfl, hb⟩
  rw [NA.out]
  replace HB := Aside0.mk (below_step HB.out hb)
  clear hb
  go_wp2_with fail
  go_ret
  exact ⟨rfl, HB.out⟩

theorem areas_walk (w : World) (A : Option Addr) (c : Nat) (l : List S23) (hc : l.length ≤ c) (hr : Kd.C k23 w A l.length l) (at_ : Int) (_ : -9223372036854775808 ≤ at_ ∧ at_ ≤ 9223372036854775807) :
    Calls Try.prog 10 #[.slice A l.length c, .int .i64 at_] w fun e w' => e = .returned (.bool true) ∧ Below w.heap.size w w' := by
  by_cases hl : l.length ≤ 300
  · by_cases h0 : 0 ≤ at_
    · by_cases h1 : at_ < l.length
      · exact areas_in w A c l at_ hc hr hl h0 h1
      · exact areas_high w A c l at_ hc hr hl h0 (by omega)
    · exact areas_low w A c l at_ hc hr hl (by omega)
  · by_cases h2 : l.length ≤ 2000
    · exact areas_big1 w A c l at_ hc hr (by omega) h2
    · exact areas_big2 w A c l at_ hc hr (by omega)

end Go.Proofs.Ytpfgjagpaddcpaa.Own
