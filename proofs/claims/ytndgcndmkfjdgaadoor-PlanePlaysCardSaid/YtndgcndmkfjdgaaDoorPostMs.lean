import Derived.Test.YtndgcndmkfjdgaaDoorPostFit
import Derived.Test.YtndgcndmkfjdgaaDoorPlM
namespace Go.Proofs.YtndgcndmkfjdgaaDoor
open Go.ChangeShapes Go.WideShapes Go.ChangeAt Go.RowKit Go.Deep
set_option linter.unusedVariables false
set_option linter.unusedSimpArgs false
/-! what a slice of raw marks is worth to a walk -/
section
variable {H : Type} {enc : TypeId × Value → H} {P : Program} {W : World} {base : Nat} {sp : Nat → Bool} {hd : Bool}
theorem cell_float {t : TypeId} {k : FloatKind} {n : Nat} {v : Value} {y : DataW H × List MemPlace} (ht : P.underlying t = some (.float k)) (h : DataW.trod enc P W base sp hd n t [v] = some y) : ∃ b, v = .float k b ∧ (Lit.float k b).wf = true := by
  cases n with
  | zero => simp [DataW.trod] at h
  | succ n =>
    unfold DataW.trod at h
    rw [ht] at h
    split at h <;> simp_all
end
theorem f64_lt' {b : Nat} (h : (Lit.float .f64 b).wf = true) : b < 18446744073709551616 := by
  have : b < 2 ^ 64 := by simpa [Lit.wf] using h
  simpa using this
/-- raw marks, by number: what each has in its cells -/
def MsA (W : World) (A : Option Addr) (n : Nat) : Prop := n ≤ 4398046511102 ∧ ∀ i, i < n → ∃ (b off : Nat) (x : Mw), A = some ⟨b, off, none⟩ ∧ b < W.heap.size ∧ (W.cell? ⟨b, off + i * 4, none⟩ = some (.float .f64 x.1.1) ∧ W.cell? ⟨b, off + i * 4 + 1, none⟩ = some (.float .f64 x.1.2)) ∧ (W.cell? ⟨b, off + i * 4 + 2, none⟩ = some (.float .f64 x.2.1) ∧ W.cell? ⟨b, off + i * 4 + 3, none⟩ = some (.float .f64 x.2.2)) ∧ Ltw x
theorem list_of {α : Type} {R : Nat → α → Prop} : ∀ n : Nat, (∀ i, i < n → ∃ x, R i x) → ∃ l : List α, l.length = n ∧ ∀ i (h : i < l.length), R i l[i]
  | 0, _ => ⟨[], rfl, fun i h => absurd h (Nat.not_lt_zero _)⟩
  | n + 1, h => by
    obtain ⟨l, hl, hR⟩ := list_of n (fun i hi => h i (by omega))
    obtain ⟨x, hx⟩ := h n (by omega)
    refine ⟨l ++ [x], by simp [hl], fun i hi => ?_⟩
    by_cases h2 : i < l.length
    · rw [List.getElem_append_left h2]; exact hR i h2
    · have : i = n := by simp at hi; omega
      subst this
      simpa [hl] using hx
theorem MsA.raws {W : World} {A : Option Addr} {n : Nat} (h : MsA W A n) : ∃ rs : List Mw, rs.length = n ∧ Raws W A rs := by
  obtain ⟨l, hl, hR⟩ := list_of (R := fun i (x : Mw) => ∃ b off, A = some ⟨b, off, none⟩ ∧ b < W.heap.size ∧ (W.cell? ⟨b, off + i * 4, none⟩ = some (.float .f64 x.1.1) ∧ W.cell? ⟨b, off + i * 4 + 1, none⟩ = some (.float .f64 x.1.2)) ∧ (W.cell? ⟨b, off + i * 4 + 2, none⟩ = some (.float .f64 x.2.1) ∧ W.cell? ⟨b, off + i * 4 + 3, none⟩ = some (.float .f64 x.2.2)) ∧ Ltw x) n (fun i hi => by
    obtain ⟨b, off, x, hh⟩ := h.2 i hi
    exact ⟨x, b, off, hh⟩)
  exact ⟨l, hl, hR⟩
theorem MsA_cells : Tryd.prog.cellsOf 83 = 4 := by kernel_rfl
theorem MsA_bytes : Tryd.prog.bytesOf 83 = 32 := by kernel_rfl
theorem MsA_one : Tryd.prog.cellsOf 46 = 1 := by kernel_rfl
theorem open_MsA {H : Type} {enc : TypeId × Value → H} {W : World} {v : Value} {d : DataW H} {p : List MemPlace} {ts : List TypeId} {ds : List (DataW H)} {j : Nat} (h : DataW.Trod enc Tryd.prog W 0 (fun _ => true) true 22 v d p) (hv : ∃ a len cap, v = .slice a len cap)
    (hsz : (DataW.weightsEach Tryd.prog ts ds).all (· ≤ reachBytes) = true) (hts : ts[j]? = some 22) (hds : ds[j]? = some d) : ∃ A n c, v = .slice A n c ∧ MsA W A n := by
  obtain ⟨_, _, _, rfl⟩ := hv
  obtain ⟨fuel, yy, hf, hF⟩ := Fit.of hsz hts hds h
  obtain ⟨A, n, cap, hv, hl, hby, hm, _, hx⟩ := slice_fit Tryd.underlying22 (by rw [MsA_cells]; decide) (by rw [MsA_bytes]; decide) hf hF
  rw [MsA_bytes] at hby
  refine ⟨A, n, cap, hv, by unfold reachBytes at hby; omega, fun i hi => ?_⟩
  obtain ⟨b, off, cs, m, z, rfl, hlen, hc, ht, hG⟩ := hx i hi
  rw [MsA_cells] at hc
  obtain ⟨c0, m0, y0, e0, h0, f0⟩ := field_fit Tryd.underlying83 ht hG 0 _ rfl MsA_one (by rw [MsA_cells]; decide)
  obtain ⟨v0, rfl, w0⟩ := cell_float Tryd.underlying46 h0
  have g0 := hc _ _ e0
  obtain ⟨c1, m1, y1, e1, h1, f1⟩ := field_fit Tryd.underlying83 ht hG 1 _ rfl MsA_one (by rw [MsA_cells]; decide)
  obtain ⟨v1, rfl, w1⟩ := cell_float Tryd.underlying46 h1
  have g1 := hc _ _ e1
  obtain ⟨c2, m2, y2, e2, h2, f2⟩ := field_fit Tryd.underlying83 ht hG 2 _ rfl MsA_one (by rw [MsA_cells]; decide)
  obtain ⟨v2, rfl, w2⟩ := cell_float Tryd.underlying46 h2
  have g2 := hc _ _ e2
  obtain ⟨c3, m3, y3, e3, h3, f3⟩ := field_fit Tryd.underlying83 ht hG 3 _ rfl MsA_one (by rw [MsA_cells]; decide)
  obtain ⟨v3, rfl, w3⟩ := cell_float Tryd.underlying46 h3
  have g3 := hc _ _ e3
  exact ⟨b, off, ((v0, v1), (v2, v3)), rfl, World.block_lt_of_cell? W _ g0, ⟨g0, g1⟩, ⟨g2, g3⟩, ⟨f64_lt' w0, f64_lt' w1⟩, f64_lt' w2, f64_lt' w3⟩
end Go.Proofs.YtndgcndmkfjdgaaDoor
