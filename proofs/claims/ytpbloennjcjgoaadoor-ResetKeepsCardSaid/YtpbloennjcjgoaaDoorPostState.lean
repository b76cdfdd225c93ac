import Derived.Test.YtpbloennjcjgoaaDoorPostRec
namespace Go.Proofs.YtpbloennjcjgoaaDoor
open Go.ChangeShapes Go.WideShapes Go.ChangeAt Go.RowKit Go.Deep
set_option linter.unusedVariables false
set_option linter.unusedSimpArgs false
theorem list5 {α : Type} (l : List α) (h : l.length = 5) : ∃ a b c d e, l = [a, b, c, d, e] := by
  match l, h with
  | [a, b, c, d, e], _ => exact ⟨a, b, c, d, e, rfl⟩
theorem state_cells : Tryd.prog.cellsOf 23 = 5 := by kernel_rfl
theorem one_str : Tryd.prog.cellsOf 9 = 1 := by kernel_rfl
theorem one_int : Tryd.prog.cellsOf 3 = 1 := by kernel_rfl
/-! a state that came in -/
set_option maxRecDepth 100000 in
theorem open_state {H : Type} {enc : TypeId × Value → H} {W : World} {base : Nat} {v : Value} {d : DataW H} {p : List MemPlace} (h : DataW.Trod enc Tryd.prog W 0 (fun _ => true) true 23 v d p) (hv : Value.okWide Tryd.prog W .any base 23 v) :
    ∃ (s d r : ByteArray) (hh l : Int), v = .agg #[.string s, .string d, .string r, .int .i64 hh, .int .i64 l] ∧ s.size ≤ maxLen ∧ d.size ≤ maxLen ∧ r.size ≤ maxLen ∧ (-9223372036854775808 ≤ hh ∧ hh ≤ 9223372036854775807) ∧ (-9223372036854775808 ≤ l ∧ l ≤ 9223372036854775807) := by
  obtain ⟨cs, rfl, hsz⟩ := okWide_struct Tryd.underlying23 hv
  rw [state_cells] at hsz
  obtain ⟨l⟩ := cs
  obtain ⟨c0, c1, c2, c3, c4, rfl⟩ := list5 l hsz
  obtain ⟨fuel, hf⟩ := h
  obtain ⟨v0, n0, x0, e0, t0⟩ := field_cell Tryd.underlying23 hf 0 _ rfl one_str (by rw [state_cells]; decide)
  obtain ⟨v1, n1, x1, e1, t1⟩ := field_cell Tryd.underlying23 hf 1 _ rfl one_str (by rw [state_cells]; decide)
  obtain ⟨v2, n2, x2, e2, t2⟩ := field_cell Tryd.underlying23 hf 2 _ rfl one_str (by rw [state_cells]; decide)
  obtain ⟨v3, n3, x3, e3, t3⟩ := field_cell Tryd.underlying23 hf 3 _ rfl one_int (by rw [state_cells]; decide)
  obtain ⟨v4, n4, x4, e4, t4⟩ := field_cell Tryd.underlying23 hf 4 _ rfl one_int (by rw [state_cells]; decide)
  simp [Value.cells] at e0 e1 e2 e3 e4
  subst e0 e1 e2 e3 e4
  obtain ⟨s, rfl, w0⟩ := cell_str Tryd.underlying9 t0
  obtain ⟨d, rfl, w1⟩ := cell_str Tryd.underlying9 t1
  obtain ⟨r, rfl, w2⟩ := cell_str Tryd.underlying9 t2
  obtain ⟨a, rfl, w3⟩ := cell_int Tryd.underlying3 t3
  obtain ⟨b, rfl, w4⟩ := cell_int Tryd.underlying3 t4
  exact ⟨s, d, r, a, b, rfl, w0, w1, w2, rec_int _ w3, rec_int _ w4⟩
end Go.Proofs.YtpbloennjcjgoaaDoor
