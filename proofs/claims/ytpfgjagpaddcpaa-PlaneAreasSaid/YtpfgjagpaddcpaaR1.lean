import Derived.Test.YtpfgjagpaddcpaaR0
/-! Rows of points, and rows of rings, as they come in. -/
namespace Go.Proofs.Ytpfgjagpaddcpaa.Own
open Go.RowKit Go.Proofs.YtpfgjagpaddcpaaW.PrintWords
open Go.Proofs.Ytpfgjagpaddcpaa.X
open Go.ChangeShapes Go.WideShapes
set_option linter.unusedVariables false
set_option linter.unusedSimpArgs false

section
variable {H : Type} {enc : TypeId × Value → H} {W : World} {base : Nat} {sp : Nat → Bool} {held : Bool} {n : Nat} {cs : List Value} {x : DataW H × List MemPlace}

theorem add_add' (a : Addr) (i j : Nat) : (a.add i).add j = a.add (i + j) := Go.Deep.add_add a i j

/-- A row of points: what it holds; how many data it reads as. -/
theorem trod_row {t : TypeId} (ht : Try.prog.underlying t = some (.slice 23)) (h : DataW.trod enc Try.prog W base sp held n t cs = some x) :
    ∃ (A : Option Addr) (c : Nat) (l : List S23), cs = [.slice A l.length c] ∧ l.length ≤ c ∧ Kd.C k23 W A l.length l ∧ (l = [] ∨ ∃ el es, x.1 = .slice el es ∧ el.length = l.length) := by
  rcases Go.Deep.open_slice ht h with ⟨rfl, rfl⟩ | ⟨a, len, cap, m, k, D, Pl, rfl, _, hl, hm, hmm, rfl, hx⟩
  · exact ⟨none, 0, [], rfl, Nat.le_refl _, ⟨rfl, by decide, fun h => absurd h (Nat.lt_irrefl _)⟩, Or.inl rfl⟩
  · have hle : len ≤ m := by rw [hmm]; split <;> omega
    have hm' : cap ≤ 9223372036854775807 := by simpa [maxLen] using hm
    have : Inhabited S23 := ⟨z23⟩
    obtain ⟨f, hf⟩ := Go.Deep.choose_lt (α := S23) (n := len) (p := fun i p => W.cells? base (a.add (i * 2)) 2 = some [.int .i64 p.f0, .int .i64 p.f1]) (fun i hi => by
      obtain ⟨cs', h1, h2⟩ := hx i (by omega)
      rw [cells23] at h1
      obtain ⟨u, v, rfl, _⟩ := trod_pt h2
      exact ⟨⟨u, v⟩, h1⟩)
    have hlen : ((List.range len).map f).length = len := by simp
    refine ⟨some a, cap, (List.range len).map f, by rw [hlen], by rw [hlen]; exact hl, ⟨rfl, by rw [hlen]; omega, fun _ => ⟨a, rfl, fun j p hj => ?_⟩⟩, Or.inr ⟨_, _, rfl, by simp⟩⟩
    obtain ⟨hj1, hj2⟩ := List.getElem?_eq_some_iff.1 hj
    rw [hlen] at hj1
    simp at hj2
    subst hj2
    obtain ⟨_, _, hc⟩ := World.cells?_some (hf j hj1)
    refine ⟨[.int .i64 (f j).f0, .int .i64 (f j).f1], rfl, k23_mk W _, fun i u hu => ?_⟩
    have hi : i < 2 := by
      have := (List.getElem?_eq_some_iff.1 hu).1
      simpa using this
    have := hc i hi
    rw [add_add', hu] at this
    exact this

/-- Rings: what they hold; how many data they read as. -/
theorem trod_rows (h : DataW.trod enc Try.prog W base sp held n 35 cs = some x) :
    ∃ (A : Option Addr) (c : Nat) (l : List (List S23)), cs = [.slice A l.length c] ∧ l.length ≤ c ∧ Kd.C (Kd.slice 23 k23) W A l.length l ∧
      (l = [] ∨ ∃ el es, x.1 = .slice el es ∧ el.length = l.length ∧ ∀ (i : Nat) (d : DataW H) (r : List S23), el[i]? = some d → l[i]? = some r → (r = [] ∨ ∃ el2 es2, d = .slice el2 es2 ∧ el2.length = r.length)) := by
  rcases Go.Deep.open_slice Try.underlying35 h with ⟨rfl, rfl⟩ | ⟨a, len, cap, m, k, D, Pl, rfl, _, hl, hm, hmm, rfl, hx⟩
  · exact ⟨none, 0, [], rfl, Nat.le_refl _, ⟨rfl, by decide, fun h => absurd h (Nat.lt_irrefl _)⟩, Or.inl rfl⟩
  · have hle : len ≤ m := by rw [hmm]; split <;> omega
    have hm' : cap ≤ 9223372036854775807 := by simpa [maxLen] using hm
    obtain ⟨f, hf⟩ := Go.Deep.choose_lt (α := List S23) (n := len) (p := fun i r => ∃ A c, W.cells? base (a.add (i * 1)) 1 = some [.slice A r.length c] ∧ r.length ≤ c ∧ Kd.C k23 W A r.length r ∧ (r = [] ∨ ∃ el2 es2, D i = .slice el2 es2 ∧ el2.length = r.length)) (fun i hi => by
      obtain ⟨cs', h1, h2⟩ := hx i (by omega)
      rw [cells47] at h1
      obtain ⟨A, c, r, rfl, hc, hr, hb⟩ := trod_row Try.underlying47 h2
      exact ⟨r, A, c, h1, hc, hr, hb⟩)
    have hlen : ((List.range len).map f).length = len := by simp
    refine ⟨some a, cap, (List.range len).map f, by rw [hlen], by rw [hlen]; exact hl, ⟨rfl, by rw [hlen]; omega, fun _ => ⟨a, rfl, fun j p hj => ?_⟩⟩, Or.inr ⟨_, _, rfl, by simp, fun i d r hd hr => ?_⟩⟩
    · obtain ⟨hj1, hj2⟩ := List.getElem?_eq_some_iff.1 hj
      rw [hlen] at hj1
      simp at hj2
      subst hj2
      obtain ⟨A, c, hc, h2, h3, _⟩ := hf j hj1
      refine ⟨[.slice A (f j).length c], rfl, ⟨A, c, rfl, h2, h3⟩, fun i u hu => ?_⟩
      obtain ⟨_, _, hc'⟩ := World.cells?_some hc
      have hi : i < 1 := by
        have := (List.getElem?_eq_some_iff.1 hu).1
        simpa using this
      have := hc' i hi
      rw [add_add', hu] at this
      exact this
    · obtain ⟨hj1, hj2⟩ := List.getElem?_eq_some_iff.1 hr
      rw [hlen] at hj1
      simp at hj2
      subst hj2
      obtain ⟨_, _, _, _, _, hb⟩ := hf i hj1
      obtain ⟨_, hd2⟩ := List.getElem?_eq_some_iff.1 hd
      simp at hd2
      rw [← hd2]
      exact hb

end

theorem open_row {H : Type} {enc : TypeId × Value → H} {W : World} {b0 base : Nat} {sp : Nat → Bool} {t : TypeId} {v : Value} {d : DataW H} {p : List MemPlace} (ht : Try.prog.underlying t = some (.slice 23)) (hv : Value.okWide Try.prog W .any b0 t v) (h : DataW.Trod enc Try.prog W base sp true t v d p) :
    ∃ (A : Option Addr) (c : Nat) (l : List S23), v = .slice A l.length c ∧ l.length ≤ c ∧ Kd.C k23 W A l.length l ∧ (l = [] ∨ ∃ el es, d = .slice el es ∧ el.length = l.length) := by
  obtain ⟨A, len, cap, rfl⟩ := okWide_slice ht hv
  obtain ⟨n, hf⟩ := h
  obtain ⟨A', c, l, e, h1, h2, h3⟩ := trod_row ht hf
  simp [Value.cells] at e
  obtain ⟨rfl, rfl, rfl⟩ := e
  exact ⟨_, _, l, rfl, h1, h2, h3⟩

theorem open_rows {H : Type} {enc : TypeId × Value → H} {W : World} {b0 base : Nat} {sp : Nat → Bool} {v : Value} {d : DataW H} {p : List MemPlace} (hv : Value.okWide Try.prog W .any b0 35 v) (h : DataW.Trod enc Try.prog W base sp true 35 v d p) :
    ∃ (A : Option Addr) (c : Nat) (l : List (List S23)), v = .slice A l.length c ∧ l.length ≤ c ∧ Kd.C (Kd.slice 23 k23) W A l.length l ∧
      (l = [] ∨ ∃ el es, d = .slice el es ∧ el.length = l.length ∧ ∀ (i : Nat) (d : DataW H) (r : List S23), el[i]? = some d → l[i]? = some r → (r = [] ∨ ∃ el2 es2, d = .slice el2 es2 ∧ el2.length = r.length)) := by
  obtain ⟨A, len, cap, rfl⟩ := okWide_slice Try.underlying35 hv
  obtain ⟨n, hf⟩ := h
  obtain ⟨A', c, l, e, h1, h2, h3⟩ := trod_rows hf
  simp [Value.cells] at e
  obtain ⟨rfl, rfl, rfl⟩ := e
  exact ⟨_, _, l, rfl, h1, h2, h3⟩
end Go.Proofs.Ytpfgjagpaddcpaa.Own
