import Derived.Test.YtoaiiimnfgbcaaaPostFit
namespace Go.Proofs.Ytoaiiimnfgbcaaa
open Go.ChangeShapes Go.WideShapes Go.ChangeAt Go.RowKit Go.Deep
set_option linter.unusedVariables false
set_option linter.unusedSimpArgs false
/-- a slice of texts that came in: its cells, with the reach -/
def Strs (W : World) (A : Option Addr) (n : Nat) : Prop := n ≤ 140737488351232 ∧ ∀ i, i < n → ∃ (b off : Nat) (v : ByteArray), A = some ⟨b, off, none⟩ ∧ b < W.heap.size ∧ W.cell? ⟨b, off + i, none⟩ = some (.string v) ∧ v.size ≤ 140737488351232
theorem Strs_cells : Try.prog.cellsOf 9 = 1 := by kernel_rfl
theorem Strs_bytes : 0 < Try.prog.bytesOf 9 := by decide +kernel
theorem open_Strs {H : Type} {enc : TypeId × Value → H} {W : World} {v : Value} {d : DataW H} {p : List MemPlace} {ts : List TypeId} {ds : List (DataW H)} {j : Nat} (h : DataW.Trod enc Try.prog W 0 (fun _ => true) true 39 v d p) (hv : ∃ a len cap, v = .slice a len cap)
    (hsz : (DataW.weightsEach Try.prog ts ds).all (· ≤ reachBytes) = true) (hts : ts[j]? = some 39) (hds : ds[j]? = some d) : ∃ A n c, v = .slice A n c ∧ Strs W A n := by
  obtain ⟨_, _, _, rfl⟩ := hv
  obtain ⟨fuel, yy, hf, hF⟩ := Fit.of hsz hts hds h
  obtain ⟨A, n, cap, hv, hl, _, hm, _, hx⟩ := slice_fit Try.underlying39 (by rw [Strs_cells]; decide) Strs_bytes hf hF
  refine ⟨A, n, cap, hv, by omega, fun i hi => ?_⟩
  obtain ⟨b, off, cs, m, z, rfl, hlen, hc, ht, hG⟩ := hx i hi
  rw [Strs_cells] at hlen hc
  obtain ⟨x, rfl⟩ : ∃ x, cs = [x] := by
    match cs, hlen with
    | [x], _ => exact ⟨x, rfl⟩
  obtain ⟨v, rfl, w⟩ := fit_string Try.underlying9 ht hG
  have g := hc 0 _ rfl
  rw [Nat.mul_one, Nat.add_zero] at g
  exact ⟨b, off, v, rfl, World.block_lt_of_cell? W _ g, g, w⟩
end Go.Proofs.Ytoaiiimnfgbcaaa
