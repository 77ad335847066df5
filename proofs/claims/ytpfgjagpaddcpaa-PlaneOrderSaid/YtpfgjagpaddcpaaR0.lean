import Derived.Test.YtpfgjagpaddcpaaX0
import Derived.ProofKit
import Derived.OpenShut
import Derived.ChangeOld
import Derived.SizedLaws
import Derived.Deep.Slices
/-! How the arguments of these laws read: points, boxes, arrays of points, rows of points, rings. -/
namespace Go.Proofs.Ytpfgjagpaddcpaa.Own
open Go.RowKit Go.Proofs.YtpfgjagpaddcpaaW.PrintWords
open Go.Proofs.Ytpfgjagpaddcpaa.X
open Go.ChangeShapes Go.WideShapes
set_option linter.unusedVariables false
set_option linter.unusedSimpArgs false

theorem own : ownKnob Try.prog.godebug = none := by kernel_rfl
theorem laidOut : laidOutB Try.prog = true := by kernel_rfl
theorem cells3 : Try.prog.cellsOf 3 = 1 := by kernel_rfl
theorem cells23 : Try.prog.cellsOf 23 = 2 := by kernel_rfl
theorem cells33 : Try.prog.cellsOf 33 = 4 := by kernel_rfl
theorem cells29 : Try.prog.cellsOf 29 = 6 := by kernel_rfl
theorem cells43 : Try.prog.cellsOf 43 = 2 := by kernel_rfl
theorem cells72 : Try.prog.cellsOf 72 = 3 := by kernel_rfl
theorem cells46 : Try.prog.cellsOf 46 = 1 := by kernel_rfl
theorem cells47 : Try.prog.cellsOf 47 = 1 := by kernel_rfl
theorem cells35 : Try.prog.cellsOf 35 = 1 := by kernel_rfl
theorem cells37 : Try.prog.cellsOf 37 = 6 := by kernel_rfl

section
variable {H : Type} {enc : TypeId × Value → H} {W : World} {base : Nat} {sp : Nat → Bool} {held : Bool} {n : Nat} {cs : List Value} {x : DataW H × List MemPlace}

theorem trod_num (h : DataW.trod enc Try.prog W base sp held n 3 cs = some x) : ∃ a, cs = [.int .i64 a] ∧ -9223372036854775808 ≤ a ∧ a ≤ 9223372036854775807 := by
  obtain ⟨a, h1, _, h2⟩ := DataW.trod_int Try.underlying3 h
  refine ⟨a, h1, ?_⟩
  simp only [Lit.wf, Bool.and_eq_true, decide_eq_true_eq] at h2
  exact h2

theorem trod_pt (h : DataW.trod enc Try.prog W base sp held n 23 cs = some x) : ∃ a b, cs = [.int .i64 a, .int .i64 b] ∧ (-9223372036854775808 ≤ a ∧ a ≤ 9223372036854775807) ∧ -9223372036854775808 ≤ b ∧ b ≤ 9223372036854775807 := by
  obtain ⟨y0, y1, m, _, hl, h0, h1⟩ := trod_struct2 Try.underlying23 h
  rw [cells23] at hl
  match cs, hl with
  | [c0, c1], _ =>
    simp only [cells3] at h0 h1
    obtain ⟨a, e0, w0⟩ := trod_num h0
    obtain ⟨b, e1, w1⟩ := trod_num h1
    simp at e0 e1
    exact ⟨a, b, by rw [e0, e1], w0, w1⟩

theorem trod_box (h : DataW.trod enc Try.prog W base sp held n 33 cs = some x) : ∃ a b c d, cs = [.int .i64 a, .int .i64 b, .int .i64 c, .int .i64 d] := by
  obtain ⟨y0, y1, m, _, hl, h0, h1⟩ := trod_struct2 Try.underlying33 h
  rw [cells33] at hl
  match cs, hl with
  | [c0, c1, c2, c3], _ =>
    simp only [cells23] at h0 h1
    obtain ⟨a, b, e0, _⟩ := trod_pt h0
    obtain ⟨c, d, e1, _⟩ := trod_pt h1
    simp at e0 e1
    exact ⟨a, b, c, d, by rw [e0.1, e0.2, e1.1, e1.2]⟩

theorem trod_arr3 (h : DataW.trod enc Try.prog W base sp held n 29 cs = some x) : ∃ a b c d e f, cs = [.int .i64 a, .int .i64 b, .int .i64 c, .int .i64 d, .int .i64 e, .int .i64 f] := by
  obtain ⟨xs, m, _, _, hl, hx, hi⟩ := DataW.trod_array Try.underlying29 h
  rw [cells29] at hl
  match cs, hl with
  | [c0, c1, c2, c3, c4, c5], _ =>
    match xs, hx with
    | [y0, y1, y2], _ =>
      have h0 := hi 0 (by omega)
      have h1 := hi 1 (by omega)
      have h2 := hi 2 (by omega)
      simp only [cells23] at h0 h1 h2
      obtain ⟨a, b, e0, _⟩ := trod_pt h0
      obtain ⟨c, d, e1, _⟩ := trod_pt h1
      obtain ⟨e, f, e2, _⟩ := trod_pt h2
      simp at e0 e1 e2
      exact ⟨a, b, c, d, e, f, by rw [e0.1, e0.2, e1.1, e1.2, e2.1, e2.2]⟩

theorem trod_arr2i (h : DataW.trod enc Try.prog W base sp held n 43 cs = some x) : ∃ a b, cs = [.int .i64 a, .int .i64 b] ∧ (-9223372036854775808 ≤ a ∧ a ≤ 9223372036854775807) ∧ -9223372036854775808 ≤ b ∧ b ≤ 9223372036854775807 := by
  obtain ⟨xs, m, _, _, hl, hx, hi⟩ := DataW.trod_array Try.underlying43 h
  rw [cells43] at hl
  match cs, hl with
  | [c0, c1], _ =>
    match xs, hx with
    | [y0, y1], _ =>
      have h0 := hi 0 (by omega)
      have h1 := hi 1 (by omega)
      simp only [cells3] at h0 h1
      obtain ⟨a, e0, w0⟩ := trod_num h0
      obtain ⟨b, e1, w1⟩ := trod_num h1
      simp at e0 e1
      exact ⟨a, b, by rw [e0, e1], w0, w1⟩

theorem trod_arr3i (h : DataW.trod enc Try.prog W base sp held n 72 cs = some x) : ∃ a b c, cs = [.int .i64 a, .int .i64 b, .int .i64 c] := by
  obtain ⟨xs, m, _, _, hl, hx, hi⟩ := DataW.trod_array Try.underlying72 h
  rw [cells72] at hl
  match cs, hl with
  | [c0, c1, c2], _ =>
    match xs, hx with
    | [y0, y1, y2], _ =>
      have h0 := hi 0 (by omega)
      have h1 := hi 1 (by omega)
      have h2 := hi 2 (by omega)
      simp only [cells3] at h0 h1 h2
      obtain ⟨a, e0, _⟩ := trod_num h0
      obtain ⟨b, e1, _⟩ := trod_num h1
      obtain ⟨c, e2, _⟩ := trod_num h2
      simp at e0 e1 e2
      exact ⟨a, b, c, by rw [e0, e1, e2]⟩

end

/-- The values of the laws' arguments. -/
theorem open_pt {H : Type} {enc : TypeId × Value → H} {W : World} {b0 base : Nat} {sp : Nat → Bool} {v : Value} {d : DataW H} {p : List MemPlace} (hv : Value.okWide Try.prog W .any b0 23 v) (h : DataW.Trod enc Try.prog W base sp true 23 v d p) :
    ∃ a b, v = .agg #[.int .i64 a, .int .i64 b] ∧ (-9223372036854775808 ≤ a ∧ a ≤ 9223372036854775807) ∧ -9223372036854775808 ≤ b ∧ b ≤ 9223372036854775807 := by
  obtain ⟨cs, rfl, _⟩ := okWide_struct Try.underlying23 hv
  obtain ⟨n, hf⟩ := h
  obtain ⟨a, b, e, w⟩ := trod_pt hf
  exact ⟨a, b, by rw [Array.ext' (show cs.toList = #[Value.int .i64 a, .int .i64 b].toList from e)], w⟩

theorem open_box {H : Type} {enc : TypeId × Value → H} {W : World} {b0 base : Nat} {sp : Nat → Bool} {v : Value} {d : DataW H} {p : List MemPlace} (hv : Value.okWide Try.prog W .any b0 33 v) (h : DataW.Trod enc Try.prog W base sp true 33 v d p) :
    ∃ a b c e, v = .agg #[.int .i64 a, .int .i64 b, .int .i64 c, .int .i64 e] := by
  obtain ⟨cs, rfl, _⟩ := okWide_struct Try.underlying33 hv
  obtain ⟨n, hf⟩ := h
  obtain ⟨a, b, c, e, hh⟩ := trod_box hf
  exact ⟨a, b, c, e, by rw [Array.ext' (show cs.toList = #[Value.int .i64 a, .int .i64 b, .int .i64 c, .int .i64 e].toList from hh)]⟩

theorem okWide_arr {P : Program} {w : World} {r : Reach} {base : Nat} {t e : TypeId} {n : Nat} {v : Value} (ht : P.underlying t = some (.array n e)) (h : Value.okWide P w r base t v) : ∃ cs, v = .agg cs := by
  simp only [Value.okWide, ht] at h
  obtain ⟨cs, h1, _⟩ := h
  exact ⟨cs, h1⟩

theorem open_arr3 {H : Type} {enc : TypeId × Value → H} {W : World} {b0 base : Nat} {sp : Nat → Bool} {v : Value} {d : DataW H} {p : List MemPlace} (hv : Value.okWide Try.prog W .any b0 29 v) (h : DataW.Trod enc Try.prog W base sp true 29 v d p) :
    ∃ a b c e f g, v = .agg #[.int .i64 a, .int .i64 b, .int .i64 c, .int .i64 e, .int .i64 f, .int .i64 g] := by
  obtain ⟨cs, rfl⟩ := okWide_arr Try.underlying29 hv
  obtain ⟨n, hf⟩ := h
  obtain ⟨a, b, c, e, f, g, hh⟩ := trod_arr3 hf
  exact ⟨a, b, c, e, f, g, by rw [Array.ext' (show cs.toList = #[Value.int .i64 a, .int .i64 b, .int .i64 c, .int .i64 e, .int .i64 f, .int .i64 g].toList from hh)]⟩

theorem open_arr2i {H : Type} {enc : TypeId × Value → H} {W : World} {b0 base : Nat} {sp : Nat → Bool} {v : Value} {d : DataW H} {p : List MemPlace} (hv : Value.okWide Try.prog W .any b0 43 v) (h : DataW.Trod enc Try.prog W base sp true 43 v d p) :
    ∃ a b, v = .agg #[.int .i64 a, .int .i64 b] ∧ (-9223372036854775808 ≤ a ∧ a ≤ 9223372036854775807) ∧ -9223372036854775808 ≤ b ∧ b ≤ 9223372036854775807 := by
  obtain ⟨cs, rfl⟩ := okWide_arr Try.underlying43 hv
  obtain ⟨n, hf⟩ := h
  obtain ⟨a, b, hh, w⟩ := trod_arr2i hf
  exact ⟨a, b, by rw [Array.ext' (show cs.toList = #[Value.int .i64 a, .int .i64 b].toList from hh)], w⟩

theorem open_arr3i {H : Type} {enc : TypeId × Value → H} {W : World} {b0 base : Nat} {sp : Nat → Bool} {v : Value} {d : DataW H} {p : List MemPlace} (hv : Value.okWide Try.prog W .any b0 72 v) (h : DataW.Trod enc Try.prog W base sp true 72 v d p) :
    ∃ a b c, v = .agg #[.int .i64 a, .int .i64 b, .int .i64 c] := by
  obtain ⟨cs, rfl⟩ := okWide_arr Try.underlying72 hv
  obtain ⟨n, hf⟩ := h
  obtain ⟨a, b, c, hh⟩ := trod_arr3i hf
  exact ⟨a, b, c, by rw [Array.ext' (show cs.toList = #[Value.int .i64 a, .int .i64 b, .int .i64 c].toList from hh)]⟩

end Go.Proofs.Ytpfgjagpaddcpaa.Own
