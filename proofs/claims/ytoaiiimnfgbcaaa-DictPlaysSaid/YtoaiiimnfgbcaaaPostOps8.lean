import Derived.Test.YtoaiiimnfgbcaaaPostFit
namespace Go.Proofs.Ytoaiiimnfgbcaaa
open Go.ChangeShapes Go.WideShapes Go.ChangeAt Go.RowKit Go.Deep
set_option linter.unusedVariables false
set_option linter.unusedSimpArgs false
/-- a slice of LAW.Op: what each element has in its cells -/
def Ops8 (W : World) (A : Option Addr) (n : Nat) : Prop := n ≤ 140737488351232 ∧ ∀ i, i < n → ∃ (b off : Nat) (v0 : Int) (v1 : Int) (v2 : Int) (v3 : UInt8) (v4 : ByteArray), A = some ⟨b, off, none⟩ ∧ b < W.heap.size ∧ W.cell? ⟨b, off + i * 5, none⟩ = some (.int .i64 v0) ∧ W.cell? ⟨b, off + i * 5 + 1, none⟩ = some (.int .i64 v1) ∧ W.cell? ⟨b, off + i * 5 + 2, none⟩ = some (.int .i64 v2) ∧ W.cell? ⟨b, off + i * 5 + 3, none⟩ = some (.int .u8 (v3.toNat : Int)) ∧ W.cell? ⟨b, off + i * 5 + 4, none⟩ = some (.string v4) ∧ (-9223372036854775808 ≤ v0 ∧ v0 ≤ 9223372036854775807) ∧ (-9223372036854775808 ≤ v1 ∧ v1 ≤ 9223372036854775807) ∧ (-9223372036854775808 ≤ v2 ∧ v2 ≤ 9223372036854775807) ∧ v4.size ≤ 140737488351232
theorem Ops8_cells : Try.prog.cellsOf 58 = 5 := by kernel_rfl
theorem Ops8_bytes : 0 < Try.prog.bytesOf 58 := by decide +kernel
theorem Ops8_one_i64 : Try.prog.cellsOf 3 = 1 := by kernel_rfl
theorem Ops8_one_str : Try.prog.cellsOf 9 = 1 := by kernel_rfl
theorem Ops8_one_u8 : Try.prog.cellsOf 5 = 1 := by kernel_rfl
theorem open_Ops8 {H : Type} {enc : TypeId × Value → H} {W : World} {v : Value} {d : DataW H} {p : List MemPlace} {ts : List TypeId} {ds : List (DataW H)} {j : Nat} (h : DataW.Trod enc Try.prog W 0 (fun _ => true) true 53 v d p) (hv : ∃ a len cap, v = .slice a len cap)
    (hsz : (DataW.weightsEach Try.prog ts ds).all (· ≤ reachBytes) = true) (hts : ts[j]? = some 53) (hds : ds[j]? = some d) : ∃ A n c, v = .slice A n c ∧ Ops8 W A n := by
  obtain ⟨_, _, _, rfl⟩ := hv
  obtain ⟨fuel, yy, hf, hF⟩ := Fit.of hsz hts hds h
  obtain ⟨A, n, cap, hv, hl, _, hm, _, hx⟩ := slice_fit Try.underlying53 (by rw [Ops8_cells]; decide) Ops8_bytes hf hF
  refine ⟨A, n, cap, hv, by omega, fun i hi => ?_⟩
  obtain ⟨b, off, cs, m, z, rfl, hlen, hc, ht, hG⟩ := hx i hi
  rw [Ops8_cells] at hc
  obtain ⟨c0, m0, y0, e0, h0, f0⟩ := field_fit Try.underlying58 ht hG 0 _ rfl Ops8_one_i64 (by rw [Ops8_cells]; decide)
  obtain ⟨v0, rfl, w0⟩ := cell_int Try.underlying3 h0
  have g0 := hc _ _ e0
  obtain ⟨c1, m1, y1, e1, h1, f1⟩ := field_fit Try.underlying58 ht hG 1 _ rfl Ops8_one_i64 (by rw [Ops8_cells]; decide)
  obtain ⟨v1, rfl, w1⟩ := cell_int Try.underlying3 h1
  have g1 := hc _ _ e1
  obtain ⟨c2, m2, y2, e2, h2, f2⟩ := field_fit Try.underlying58 ht hG 2 _ rfl Ops8_one_i64 (by rw [Ops8_cells]; decide)
  obtain ⟨v2, rfl, w2⟩ := cell_int Try.underlying3 h2
  have g2 := hc _ _ e2
  obtain ⟨c3, m3, y3, e3, h3, f3⟩ := field_fit Try.underlying58 ht hG 3 _ rfl Ops8_one_u8 (by rw [Ops8_cells]; decide)
  obtain ⟨n3, rfl, w3⟩ := cell_int Try.underlying5 h3
  obtain ⟨v3, rfl⟩ := rec_byte _ w3
  have g3 := hc _ _ e3
  obtain ⟨c4, m4, y4, e4, h4, f4⟩ := field_fit Try.underlying58 ht hG 4 _ rfl Ops8_one_str (by rw [Ops8_cells]; decide)
  obtain ⟨v4, rfl, w4⟩ := fit_string Try.underlying9 h4 f4
  have g4 := hc _ _ e4
  exact ⟨b, off, v0, v1, v2, v3, v4, rfl, World.block_lt_of_cell? W _ g0, g0, g1, g2, g3, g4, rec_int _ w0, rec_int _ w1, rec_int _ w2, w4⟩
end Go.Proofs.Ytoaiiimnfgbcaaa
