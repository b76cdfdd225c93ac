import Derived.Test.YtmfffaocmboelaaPostRec
namespace Go.Proofs.Ytmfffaocmboelaa
open Go.ChangeShapes Go.WideShapes Go.ChangeAt Go.RowKit Go.Deep
set_option linter.unusedVariables false
set_option linter.unusedSimpArgs false
/-- a slice of ints that came in: its cells -/
def Ints (W : World) (A : Option Addr) (n : Nat) : Prop := n ≤ maxLen ∧ ∀ i, i < n → ∃ (b off : Nat) (v : Int), A = some ⟨b, off, none⟩ ∧ b < W.heap.size ∧ W.cell? ⟨b, off + i, none⟩ = some (.int .i64 v) ∧ (-9223372036854775808 ≤ v ∧ v ≤ 9223372036854775807)
theorem Ints_cells : Try.prog.cellsOf 3 = 1 := by kernel_rfl
theorem open_Ints {H : Type} {enc : TypeId × Value → H} {W : World} {v : Value} {d : DataW H} {p : List MemPlace} (h : DataW.Trod enc Try.prog W 0 (fun _ => true) true 32 v d p) (hv : ∃ a len cap, v = .slice a len cap) : ∃ A n c, v = .slice A n c ∧ Ints W A n := by
  obtain ⟨_, _, _, rfl⟩ := hv
  obtain ⟨fuel, hf⟩ := h
  obtain ⟨A, n, cap, hv, hl, hm, _, hx⟩ := cell_slice Try.underlying32 (by rw [Ints_cells]; decide) hf
  refine ⟨A, n, cap, hv, by omega, fun i hi => ?_⟩
  obtain ⟨b, off, cs, m, z, rfl, hlen, hc, ht⟩ := hx i hi
  rw [Ints_cells] at hlen hc
  obtain ⟨x, rfl⟩ : ∃ x, cs = [x] := by
    match cs, hlen with
    | [x], _ => exact ⟨x, rfl⟩
  obtain ⟨v0, rfl, w0⟩ := cell_int Try.underlying3 ht
  have g0 := hc 0 _ rfl
  rw [Nat.mul_one, Nat.add_zero] at g0
  exact ⟨b, off, v0, rfl, World.block_lt_of_cell? W _ g0, g0, rec_int _ w0⟩
end Go.Proofs.Ytmfffaocmboelaa
