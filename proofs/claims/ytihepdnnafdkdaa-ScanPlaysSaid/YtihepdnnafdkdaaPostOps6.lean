import Derived.Test.YtihepdnnafdkdaaPostRec
namespace Go.Proofs.Ytihepdnnafdkdaa
open Go.ChangeShapes Go.WideShapes Go.ChangeAt Go.RowKit Go.Deep
set_option linter.unusedVariables false
set_option linter.unusedSimpArgs false
/-- a slice of proctorlaw6.Op: what each element has in its cells -/
def Ops (W : World) (A : Option Addr) (n : Nat) : Prop := n ≤ maxLen ∧ ∀ i, i < n → ∃ (b off : Nat) (v0 : Int) (v1 : Int) (v2 : UInt8), A = some ⟨b, off, none⟩ ∧ b < W.heap.size ∧ W.cell? ⟨b, off + i * 3, none⟩ = some (.int .i64 v0) ∧ W.cell? ⟨b, off + i * 3 + 1, none⟩ = some (.int .i64 v1) ∧ W.cell? ⟨b, off + i * 3 + 2, none⟩ = some (.int .u8 (v2.toNat : Int)) ∧ (-9223372036854775808 ≤ v0 ∧ v0 ≤ 9223372036854775807) ∧ (-9223372036854775808 ≤ v1 ∧ v1 ≤ 9223372036854775807)
theorem Ops_cells : Try.prog.cellsOf 39 = 3 := by kernel_rfl
theorem Ops_one_i64 : Try.prog.cellsOf 3 = 1 := by kernel_rfl
theorem Ops_one_u8 : Try.prog.cellsOf 5 = 1 := by kernel_rfl
theorem open_Ops {H : Type} {enc : TypeId × Value → H} {W : World} {v : Value} {d : DataW H} {p : List MemPlace} (h : DataW.Trod enc Try.prog W 0 (fun _ => true) true 33 v d p) (hv : ∃ a len cap, v = .slice a len cap) : ∃ A n c, v = .slice A n c ∧ Ops W A n := by
  obtain ⟨_, _, _, rfl⟩ := hv
  obtain ⟨fuel, hf⟩ := h
  obtain ⟨A, n, cap, hv, hl, hm, _, hx⟩ := cell_slice Try.underlying33 (by rw [Ops_cells]; decide) hf
  refine ⟨A, n, cap, hv, by omega, fun i hi => ?_⟩
  obtain ⟨b, off, cs, m, z, rfl, hlen, hc, ht⟩ := hx i hi
  rw [Ops_cells] at hc
  obtain ⟨c0, m0, y0, e0, h0⟩ := field_cell Try.underlying39 ht 0 _ rfl Ops_one_i64 (by rw [Ops_cells]; decide)
  obtain ⟨v0, rfl, w0⟩ := cell_int Try.underlying3 h0
  have g0 := hc _ _ e0
  obtain ⟨c1, m1, y1, e1, h1⟩ := field_cell Try.underlying39 ht 1 _ rfl Ops_one_i64 (by rw [Ops_cells]; decide)
  obtain ⟨v1, rfl, w1⟩ := cell_int Try.underlying3 h1
  have g1 := hc _ _ e1
  obtain ⟨c2, m2, y2, e2, h2⟩ := field_cell Try.underlying39 ht 2 _ rfl Ops_one_u8 (by rw [Ops_cells]; decide)
  obtain ⟨n2, rfl, w2⟩ := cell_int Try.underlying5 h2
  obtain ⟨v2, rfl⟩ := rec_byte _ w2
  have g2 := hc _ _ e2
  exact ⟨b, off, v0, v1, v2, rfl, World.block_lt_of_cell? W _ g0, g0, g1, g2, rec_int _ w0, rec_int _ w1⟩
end Go.Proofs.Ytihepdnnafdkdaa
