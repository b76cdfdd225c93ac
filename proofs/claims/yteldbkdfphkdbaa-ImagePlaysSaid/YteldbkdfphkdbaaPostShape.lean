import Derived.Test.YteldbkdfphkdbaaPostRec
namespace Go.Proofs.Yteldbkdfphkdbaa
open Go.ChangeShapes Go.WideShapes Go.ChangeAt Go.RowKit Go.Deep
set_option linter.unusedVariables false
set_option linter.unusedSimpArgs false
theorem shape_list {α : Type} (l : List α) (h : l.length = 5) : ∃ x0 x1 x2 x3 x4, l = [x0, x1, x2, x3, x4] := by
  match l, h with
  | [x0, x1, x2, x3, x4], _ => exact ⟨x0, x1, x2, x3, x4, rfl⟩
theorem shape_cells : Try.prog.cellsOf 39 = 5 := by kernel_rfl
theorem shape_one_i64 : Try.prog.cellsOf 3 = 1 := by kernel_rfl
set_option maxRecDepth 100000 in
theorem open_shape {H : Type} {enc : TypeId × Value → H} {W : World} {base : Nat} {v : Value} {d : DataW H} {p : List MemPlace} (h : DataW.Trod enc Try.prog W 0 (fun _ => true) true 39 v d p) (hv : Value.okWide Try.prog W .any base 39 v) :
    ∃ (a0 : Int) (a1 : Int) (a2 : Int) (a3 : Int) (a4 : Int), v = .agg #[.int .i64 a0, .int .i64 a1, .int .i64 a2, .int .i64 a3, .int .i64 a4] ∧ (-9223372036854775808 ≤ a0 ∧ a0 ≤ 9223372036854775807) ∧ (-9223372036854775808 ≤ a1 ∧ a1 ≤ 9223372036854775807) ∧ (-9223372036854775808 ≤ a2 ∧ a2 ≤ 9223372036854775807) ∧ (-9223372036854775808 ≤ a3 ∧ a3 ≤ 9223372036854775807) ∧ (-9223372036854775808 ≤ a4 ∧ a4 ≤ 9223372036854775807) := by
  obtain ⟨cs, rfl, hsz⟩ := okWide_struct Try.underlying39 hv
  rw [shape_cells] at hsz
  obtain ⟨l⟩ := cs
  obtain ⟨c0, c1, c2, c3, c4, rfl⟩ := shape_list l hsz
  obtain ⟨fuel, hf⟩ := h
  obtain ⟨v0, n0, x0, e0, t0⟩ := field_cell Try.underlying39 hf 0 _ rfl shape_one_i64 (by rw [shape_cells]; decide)
  obtain ⟨v1, n1, x1, e1, t1⟩ := field_cell Try.underlying39 hf 1 _ rfl shape_one_i64 (by rw [shape_cells]; decide)
  obtain ⟨v2, n2, x2, e2, t2⟩ := field_cell Try.underlying39 hf 2 _ rfl shape_one_i64 (by rw [shape_cells]; decide)
  obtain ⟨v3, n3, x3, e3, t3⟩ := field_cell Try.underlying39 hf 3 _ rfl shape_one_i64 (by rw [shape_cells]; decide)
  obtain ⟨v4, n4, x4, e4, t4⟩ := field_cell Try.underlying39 hf 4 _ rfl shape_one_i64 (by rw [shape_cells]; decide)
  simp [Value.cells] at e0 e1 e2 e3 e4
  subst e0 e1 e2 e3 e4
  obtain ⟨a0, rfl, w0⟩ := cell_int Try.underlying3 t0
  obtain ⟨a1, rfl, w1⟩ := cell_int Try.underlying3 t1
  obtain ⟨a2, rfl, w2⟩ := cell_int Try.underlying3 t2
  obtain ⟨a3, rfl, w3⟩ := cell_int Try.underlying3 t3
  obtain ⟨a4, rfl, w4⟩ := cell_int Try.underlying3 t4
  exact ⟨a0, a1, a2, a3, a4, rfl, rec_int _ w0, rec_int _ w1, rec_int _ w2, rec_int _ w3, rec_int _ w4⟩
end Go.Proofs.Yteldbkdfphkdbaa
