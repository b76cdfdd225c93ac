import Derived.Test.YteldbkdfphkdbaaPostFit
namespace Go.Proofs.Yteldbkdfphkdbaa
open Go.ChangeShapes Go.WideShapes Go.ChangeAt Go.RowKit Go.Deep
set_option linter.unusedVariables false
set_option linter.unusedSimpArgs false
/-- a slice of LAW.Op: what each element has in its cells -/
def Ops3 (W : World) (A : Option Addr) (n : Nat) : Prop := n ≤ 140737488351232 ∧ ∀ i, i < n → ∃ (b off : Nat) (v0 : Int) (v1 : Int) (v2 : Int) (v3 : Int) (v4 : Int) (v5 : Int) (v6 : Int) (v7 : Bool) (v8 : ByteArray), A = some ⟨b, off, none⟩ ∧ b < W.heap.size ∧ W.cell? ⟨b, off + i * 9, none⟩ = some (.int .i64 v0) ∧ W.cell? ⟨b, off + i * 9 + 1, none⟩ = some (.int .i64 v1) ∧ W.cell? ⟨b, off + i * 9 + 2, none⟩ = some (.int .i64 v2) ∧ W.cell? ⟨b, off + i * 9 + 3, none⟩ = some (.int .i64 v3) ∧ W.cell? ⟨b, off + i * 9 + 4, none⟩ = some (.int .i64 v4) ∧ W.cell? ⟨b, off + i * 9 + 5, none⟩ = some (.int .i64 v5) ∧ W.cell? ⟨b, off + i * 9 + 6, none⟩ = some (.int .i64 v6) ∧ W.cell? ⟨b, off + i * 9 + 7, none⟩ = some (.bool v7) ∧ W.cell? ⟨b, off + i * 9 + 8, none⟩ = some (.string v8) ∧ (-9223372036854775808 ≤ v0 ∧ v0 ≤ 9223372036854775807) ∧ (-9223372036854775808 ≤ v1 ∧ v1 ≤ 9223372036854775807) ∧ (-9223372036854775808 ≤ v2 ∧ v2 ≤ 9223372036854775807) ∧ (-9223372036854775808 ≤ v3 ∧ v3 ≤ 9223372036854775807) ∧ (-9223372036854775808 ≤ v4 ∧ v4 ≤ 9223372036854775807) ∧ (-9223372036854775808 ≤ v5 ∧ v5 ≤ 9223372036854775807) ∧ (-9223372036854775808 ≤ v6 ∧ v6 ≤ 9223372036854775807) ∧ v8.size ≤ 140737488351232
theorem Ops3_cells : Try.prog.cellsOf 62 = 9 := by kernel_rfl
theorem Ops3_bytes : 0 < Try.prog.bytesOf 62 := by decide +kernel
theorem Ops3_one_bool : Try.prog.cellsOf 4 = 1 := by kernel_rfl
theorem Ops3_one_i64 : Try.prog.cellsOf 3 = 1 := by kernel_rfl
theorem Ops3_one_str : Try.prog.cellsOf 9 = 1 := by kernel_rfl
theorem open_Ops3 {H : Type} {enc : TypeId × Value → H} {W : World} {v : Value} {d : DataW H} {p : List MemPlace} {ts : List TypeId} {ds : List (DataW H)} {j : Nat} (h : DataW.Trod enc Try.prog W 0 (fun _ => true) true 57 v d p) (hv : ∃ a len cap, v = .slice a len cap)
    (hsz : (DataW.weightsEach Try.prog ts ds).all (· ≤ reachBytes) = true) (hts : ts[j]? = some 57) (hds : ds[j]? = some d) : ∃ A n c, v = .slice A n c ∧ Ops3 W A n := by
  obtain ⟨_, _, _, rfl⟩ := hv
  obtain ⟨fuel, yy, hf, hF⟩ := Fit.of hsz hts hds h
  obtain ⟨A, n, cap, hv, hl, _, hm, _, hx⟩ := slice_fit Try.underlying57 (by rw [Ops3_cells]; decide) Ops3_bytes hf hF
  refine ⟨A, n, cap, hv, by omega, fun i hi => ?_⟩
  obtain ⟨b, off, cs, m, z, rfl, hlen, hc, ht, hG⟩ := hx i hi
  rw [Ops3_cells] at hc
  obtain ⟨c0, m0, y0, e0, h0, f0⟩ := field_fit Try.underlying62 ht hG 0 _ rfl Ops3_one_i64 (by rw [Ops3_cells]; decide)
  obtain ⟨v0, rfl, w0⟩ := cell_int Try.underlying3 h0
  have g0 := hc _ _ e0
  obtain ⟨c1, m1, y1, e1, h1, f1⟩ := field_fit Try.underlying62 ht hG 1 _ rfl Ops3_one_i64 (by rw [Ops3_cells]; decide)
  obtain ⟨v1, rfl, w1⟩ := cell_int Try.underlying3 h1
  have g1 := hc _ _ e1
  obtain ⟨c2, m2, y2, e2, h2, f2⟩ := field_fit Try.underlying62 ht hG 2 _ rfl Ops3_one_i64 (by rw [Ops3_cells]; decide)
  obtain ⟨v2, rfl, w2⟩ := cell_int Try.underlying3 h2
  have g2 := hc _ _ e2
  obtain ⟨c3, m3, y3, e3, h3, f3⟩ := field_fit Try.underlying62 ht hG 3 _ rfl Ops3_one_i64 (by rw [Ops3_cells]; decide)
  obtain ⟨v3, rfl, w3⟩ := cell_int Try.underlying3 h3
  have g3 := hc _ _ e3
  obtain ⟨c4, m4, y4, e4, h4, f4⟩ := field_fit Try.underlying62 ht hG 4 _ rfl Ops3_one_i64 (by rw [Ops3_cells]; decide)
  obtain ⟨v4, rfl, w4⟩ := cell_int Try.underlying3 h4
  have g4 := hc _ _ e4
  obtain ⟨c5, m5, y5, e5, h5, f5⟩ := field_fit Try.underlying62 ht hG 5 _ rfl Ops3_one_i64 (by rw [Ops3_cells]; decide)
  obtain ⟨v5, rfl, w5⟩ := cell_int Try.underlying3 h5
  have g5 := hc _ _ e5
  obtain ⟨c6, m6, y6, e6, h6, f6⟩ := field_fit Try.underlying62 ht hG 6 _ rfl Ops3_one_i64 (by rw [Ops3_cells]; decide)
  obtain ⟨v6, rfl, w6⟩ := cell_int Try.underlying3 h6
  have g6 := hc _ _ e6
  obtain ⟨c7, m7, y7, e7, h7, f7⟩ := field_fit Try.underlying62 ht hG 7 _ rfl Ops3_one_bool (by rw [Ops3_cells]; decide)
  obtain ⟨v7, rfl⟩ := cell_bool Try.underlying4 h7
  have g7 := hc _ _ e7
  obtain ⟨c8, m8, y8, e8, h8, f8⟩ := field_fit Try.underlying62 ht hG 8 _ rfl Ops3_one_str (by rw [Ops3_cells]; decide)
  obtain ⟨v8, rfl, w8⟩ := fit_string Try.underlying9 h8 f8
  have g8 := hc _ _ e8
  exact ⟨b, off, v0, v1, v2, v3, v4, v5, v6, v7, v8, rfl, World.block_lt_of_cell? W _ g0, g0, g1, g2, g3, g4, g5, g6, g7, g8, rec_int _ w0, rec_int _ w1, rec_int _ w2, rec_int _ w3, rec_int _ w4, rec_int _ w5, rec_int _ w6, w8⟩
end Go.Proofs.Yteldbkdfphkdbaa
