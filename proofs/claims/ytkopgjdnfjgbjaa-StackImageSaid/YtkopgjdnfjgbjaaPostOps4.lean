import Derived.Test.YtkopgjdnfjgbjaaPostFit
import Derived.Test.YtkopgjdnfjgbjaaPostInts
namespace Go.Proofs.Ytkopgjdnfjgbjaa
open Go.ChangeShapes Go.WideShapes Go.ChangeAt Go.RowKit Go.Deep
set_option linter.unusedVariables false
set_option linter.unusedSimpArgs false
/-- a slice of LAW.Op: what each element has in its cells -/
def Ops4 (W : World) (A : Option Addr) (n : Nat) : Prop := n ≤ 140737488351232 ∧ ∀ i, i < n → ∃ (b off : Nat) (v0 : Int) (v1 : Int) (v2 : Int) (B3 : Option Addr) (l3 k3 : Nat), A = some ⟨b, off, none⟩ ∧ b < W.heap.size ∧ W.cell? ⟨b, off + i * 4, none⟩ = some (.int .i64 v0) ∧ W.cell? ⟨b, off + i * 4 + 1, none⟩ = some (.int .i64 v1) ∧ W.cell? ⟨b, off + i * 4 + 2, none⟩ = some (.int .i64 v2) ∧ W.cell? ⟨b, off + i * 4 + 3, none⟩ = some (.slice B3 l3 k3) ∧ (-9223372036854775808 ≤ v0 ∧ v0 ≤ 9223372036854775807) ∧ (-9223372036854775808 ≤ v1 ∧ v1 ≤ 9223372036854775807) ∧ (-9223372036854775808 ≤ v2 ∧ v2 ≤ 9223372036854775807) ∧ (Ints W B3 l3 ∧ l3 ≤ 140737488351232)
theorem Ops4_cells : Try.prog.cellsOf 65 = 4 := by kernel_rfl
theorem Ops4_bytes : 0 < Try.prog.bytesOf 65 := by decide +kernel
theorem Ops4_one_i64 : Try.prog.cellsOf 3 = 1 := by kernel_rfl
theorem Ops4_one_ints : Try.prog.cellsOf 38 = 1 := by kernel_rfl
theorem Ops4_bytes_int : 0 < Try.prog.bytesOf 3 := by decide +kernel
theorem Ops4_cells_int : Try.prog.cellsOf 3 = 1 := by kernel_rfl
theorem open_Ops4 {H : Type} {enc : TypeId × Value → H} {W : World} {v : Value} {d : DataW H} {p : List MemPlace} {ts : List TypeId} {ds : List (DataW H)} {j : Nat} (h : DataW.Trod enc Try.prog W 0 (fun _ => true) true 63 v d p) (hv : ∃ a len cap, v = .slice a len cap)
    (hsz : (DataW.weightsEach Try.prog ts ds).all (· ≤ reachBytes) = true) (hts : ts[j]? = some 63) (hds : ds[j]? = some d) : ∃ A n c, v = .slice A n c ∧ Ops4 W A n := by
  obtain ⟨_, _, _, rfl⟩ := hv
  obtain ⟨fuel, yy, hf, hF⟩ := Fit.of hsz hts hds h
  obtain ⟨A, n, cap, hv, hl, _, hm, _, hx⟩ := slice_fit Try.underlying63 (by rw [Ops4_cells]; decide) Ops4_bytes hf hF
  refine ⟨A, n, cap, hv, by omega, fun i hi => ?_⟩
  obtain ⟨b, off, cs, m, z, rfl, hlen, hc, ht, hG⟩ := hx i hi
  rw [Ops4_cells] at hc
  obtain ⟨c0, m0, y0, e0, h0, f0⟩ := field_fit Try.underlying65 ht hG 0 _ rfl Ops4_one_i64 (by rw [Ops4_cells]; decide)
  obtain ⟨v0, rfl, w0⟩ := cell_int Try.underlying3 h0
  have g0 := hc _ _ e0
  obtain ⟨c1, m1, y1, e1, h1, f1⟩ := field_fit Try.underlying65 ht hG 1 _ rfl Ops4_one_i64 (by rw [Ops4_cells]; decide)
  obtain ⟨v1, rfl, w1⟩ := cell_int Try.underlying3 h1
  have g1 := hc _ _ e1
  obtain ⟨c2, m2, y2, e2, h2, f2⟩ := field_fit Try.underlying65 ht hG 2 _ rfl Ops4_one_i64 (by rw [Ops4_cells]; decide)
  obtain ⟨v2, rfl, w2⟩ := cell_int Try.underlying3 h2
  have g2 := hc _ _ e2
  obtain ⟨c3, m3, y3, e3, h3, f3⟩ := field_fit Try.underlying65 ht hG 3 _ rfl Ops4_one_ints (by rw [Ops4_cells]; decide)
  obtain ⟨B3, l3, k3, rfl, q3, _, r3, _, x3⟩ := slice_fit Try.underlying38 (by rw [Ops4_cells_int]; decide) Ops4_bytes_int h3 f3
  have w3 : Ints W B3 l3 ∧ l3 ≤ 140737488351232 := by
    refine ⟨⟨by unfold maxLen; omega, fun i' hi' => ?_⟩, by omega⟩
    obtain ⟨b', off', cs', m', z', rfl, hlen', hc', ht', _⟩ := x3 i' hi'
    rw [Ops4_cells_int] at hlen' hc'
    obtain ⟨x', rfl⟩ : ∃ x', cs' = [x'] := by
      match cs', hlen' with
      | [x'], _ => exact ⟨x', rfl⟩
    obtain ⟨v', rfl, w'⟩ := cell_int Try.underlying3 ht'
    have g' := hc' 0 _ rfl
    rw [Nat.mul_one, Nat.add_zero] at g'
    exact ⟨b', off', v', rfl, World.block_lt_of_cell? W _ g', g', rec_int _ w'⟩
  have g3 := hc _ _ e3
  exact ⟨b, off, v0, v1, v2, B3, l3, k3, rfl, World.block_lt_of_cell? W _ g0, g0, g1, g2, g3, rec_int _ w0, rec_int _ w1, rec_int _ w2, w3⟩
end Go.Proofs.Ytkopgjdnfjgbjaa
