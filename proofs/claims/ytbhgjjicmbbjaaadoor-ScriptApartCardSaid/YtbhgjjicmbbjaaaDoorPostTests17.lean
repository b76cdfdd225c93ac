import Derived.Test.YtbhgjjicmbbjaaaDoorPostFit
namespace Go.Proofs.YtbhgjjicmbbjaaaDoor
open Go.ChangeShapes Go.WideShapes Go.ChangeAt Go.RowKit Go.Deep
set_option linter.unusedVariables false
set_option linter.unusedSimpArgs false
/-- a slice of LAW.Test: what each element has in its cells -/
def Tests17 (W : World) (A : Option Addr) (n : Nat) : Prop := n ≤ 140737488351232 ∧ ∀ i, i < n → ∃ (b off : Nat) (v0 : Int) (v1 : Int) (v2 : Int) (v3 : Bool) (v4 : ByteArray), A = some ⟨b, off, none⟩ ∧ b < W.heap.size ∧ W.cell? ⟨b, off + i * 5, none⟩ = some (.int .i64 v0) ∧ W.cell? ⟨b, off + i * 5 + 1, none⟩ = some (.int .i64 v1) ∧ W.cell? ⟨b, off + i * 5 + 2, none⟩ = some (.int .i64 v2) ∧ W.cell? ⟨b, off + i * 5 + 3, none⟩ = some (.bool v3) ∧ W.cell? ⟨b, off + i * 5 + 4, none⟩ = some (.string v4) ∧ (-9223372036854775808 ≤ v0 ∧ v0 ≤ 9223372036854775807) ∧ (-9223372036854775808 ≤ v1 ∧ v1 ≤ 9223372036854775807) ∧ (-9223372036854775808 ≤ v2 ∧ v2 ≤ 9223372036854775807) ∧ v4.size ≤ 140737488351232
theorem Tests17_cells : Tryd.prog.cellsOf 64 = 5 := by kernel_rfl
theorem Tests17_bytes : 0 < Tryd.prog.bytesOf 64 := by decide +kernel
theorem Tests17_one_bool : Tryd.prog.cellsOf 4 = 1 := by kernel_rfl
theorem Tests17_one_i64 : Tryd.prog.cellsOf 3 = 1 := by kernel_rfl
theorem Tests17_one_str : Tryd.prog.cellsOf 9 = 1 := by kernel_rfl
theorem open_Tests17 {H : Type} {enc : TypeId × Value → H} {W : World} {v : Value} {d : DataW H} {p : List MemPlace} {ts : List TypeId} {ds : List (DataW H)} {j : Nat} (h : DataW.Trod enc Tryd.prog W 0 (fun _ => true) true 44 v d p) (hv : ∃ a len cap, v = .slice a len cap)
    (hsz : (DataW.weightsEach Tryd.prog ts ds).all (· ≤ reachBytes) = true) (hts : ts[j]? = some 44) (hds : ds[j]? = some d) : ∃ A n c, v = .slice A n c ∧ Tests17 W A n := by
  obtain ⟨_, _, _, rfl⟩ := hv
  obtain ⟨fuel, yy, hf, hF⟩ := Fit.of hsz hts hds h
  obtain ⟨A, n, cap, hv, hl, _, hm, _, hx⟩ := slice_fit Tryd.underlying44 (by rw [Tests17_cells]; decide) Tests17_bytes hf hF
  refine ⟨A, n, cap, hv, by omega, fun i hi => ?_⟩
  obtain ⟨b, off, cs, m, z, rfl, hlen, hc, ht, hG⟩ := hx i hi
  rw [Tests17_cells] at hc
  obtain ⟨c0, m0, y0, e0, h0, f0⟩ := field_fit Tryd.underlying64 ht hG 0 _ rfl Tests17_one_i64 (by rw [Tests17_cells]; decide)
  obtain ⟨v0, rfl, w0⟩ := cell_int Tryd.underlying3 h0
  have g0 := hc _ _ e0
  obtain ⟨c1, m1, y1, e1, h1, f1⟩ := field_fit Tryd.underlying64 ht hG 1 _ rfl Tests17_one_i64 (by rw [Tests17_cells]; decide)
  obtain ⟨v1, rfl, w1⟩ := cell_int Tryd.underlying3 h1
  have g1 := hc _ _ e1
  obtain ⟨c2, m2, y2, e2, h2, f2⟩ := field_fit Tryd.underlying64 ht hG 2 _ rfl Tests17_one_i64 (by rw [Tests17_cells]; decide)
  obtain ⟨v2, rfl, w2⟩ := cell_int Tryd.underlying3 h2
  have g2 := hc _ _ e2
  obtain ⟨c3, m3, y3, e3, h3, f3⟩ := field_fit Tryd.underlying64 ht hG 3 _ rfl Tests17_one_bool (by rw [Tests17_cells]; decide)
  obtain ⟨v3, rfl⟩ := cell_bool Tryd.underlying4 h3
  have g3 := hc _ _ e3
  obtain ⟨c4, m4, y4, e4, h4, f4⟩ := field_fit Tryd.underlying64 ht hG 4 _ rfl Tests17_one_str (by rw [Tests17_cells]; decide)
  obtain ⟨v4, rfl, w4⟩ := fit_string Tryd.underlying9 h4 f4
  have g4 := hc _ _ e4
  exact ⟨b, off, v0, v1, v2, v3, v4, rfl, World.block_lt_of_cell? W _ g0, g0, g1, g2, g3, g4, rec_int _ w0, rec_int _ w1, rec_int _ w2, w4⟩
end Go.Proofs.YtbhgjjicmbbjaaaDoor
