import Derived.Test.YtpbloennjcjgoaaDoorPostFit
namespace Go.Proofs.YtpbloennjcjgoaaDoor
open Go.ChangeShapes Go.WideShapes Go.ChangeAt Go.RowKit Go.Deep
set_option linter.unusedVariables false
set_option linter.unusedSimpArgs false
/-- a slice of LAW.Op: what each element has in its cells -/
def Ops16 (W : World) (A : Option Addr) (n : Nat) : Prop := n ≤ 140737488351232 ∧ ∀ i, i < n → ∃ (b off : Nat) (v0 : Int) (v1 : Int) (v2 : ByteArray), A = some ⟨b, off, none⟩ ∧ b < W.heap.size ∧ W.cell? ⟨b, off + i * 3, none⟩ = some (.int .i64 v0) ∧ W.cell? ⟨b, off + i * 3 + 1, none⟩ = some (.int .i64 v1) ∧ W.cell? ⟨b, off + i * 3 + 2, none⟩ = some (.string v2) ∧ (-9223372036854775808 ≤ v0 ∧ v0 ≤ 9223372036854775807) ∧ (-9223372036854775808 ≤ v1 ∧ v1 ≤ 9223372036854775807) ∧ v2.size ≤ 140737488351232
theorem Ops16_cells : Tryd.prog.cellsOf 59 = 3 := by kernel_rfl
theorem Ops16_bytes : 0 < Tryd.prog.bytesOf 59 := by decide +kernel
theorem Ops16_one_i64 : Tryd.prog.cellsOf 3 = 1 := by kernel_rfl
theorem Ops16_one_str : Tryd.prog.cellsOf 9 = 1 := by kernel_rfl
theorem open_Ops16 {H : Type} {enc : TypeId × Value → H} {W : World} {v : Value} {d : DataW H} {p : List MemPlace} {ts : List TypeId} {ds : List (DataW H)} {j : Nat} (h : DataW.Trod enc Tryd.prog W 0 (fun _ => true) true 56 v d p) (hv : ∃ a len cap, v = .slice a len cap)
    (hsz : (DataW.weightsEach Tryd.prog ts ds).all (· ≤ reachBytes) = true) (hts : ts[j]? = some 56) (hds : ds[j]? = some d) : ∃ A n c, v = .slice A n c ∧ Ops16 W A n := by
  obtain ⟨_, _, _, rfl⟩ := hv
  obtain ⟨fuel, yy, hf, hF⟩ := Fit.of hsz hts hds h
  obtain ⟨A, n, cap, hv, hl, _, hm, _, hx⟩ := slice_fit Tryd.underlying56 (by rw [Ops16_cells]; decide) Ops16_bytes hf hF
  refine ⟨A, n, cap, hv, by omega, fun i hi => ?_⟩
  obtain ⟨b, off, cs, m, z, rfl, hlen, hc, ht, hG⟩ := hx i hi
  rw [Ops16_cells] at hc
  obtain ⟨c0, m0, y0, e0, h0, f0⟩ := field_fit Tryd.underlying59 ht hG 0 _ rfl Ops16_one_i64 (by rw [Ops16_cells]; decide)
  obtain ⟨v0, rfl, w0⟩ := cell_int Tryd.underlying3 h0
  have g0 := hc _ _ e0
  obtain ⟨c1, m1, y1, e1, h1, f1⟩ := field_fit Tryd.underlying59 ht hG 1 _ rfl Ops16_one_i64 (by rw [Ops16_cells]; decide)
  obtain ⟨v1, rfl, w1⟩ := cell_int Tryd.underlying3 h1
  have g1 := hc _ _ e1
  obtain ⟨c2, m2, y2, e2, h2, f2⟩ := field_fit Tryd.underlying59 ht hG 2 _ rfl Ops16_one_str (by rw [Ops16_cells]; decide)
  obtain ⟨v2, rfl, w2⟩ := fit_string Tryd.underlying9 h2 f2
  have g2 := hc _ _ e2
  exact ⟨b, off, v0, v1, v2, rfl, World.block_lt_of_cell? W _ g0, g0, g1, g2, rec_int _ w0, rec_int _ w1, w2⟩
end Go.Proofs.YtpbloennjcjgoaaDoor
