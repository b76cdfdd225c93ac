import Derived.Test.YtoaiiimnfgbcaaaPost
import Derived.Deep.Slices
namespace Go.Proofs.Ytoaiiimnfgbcaaa
open Go.ChangeShapes Go.WideShapes Go.ChangeAt Go.RowKit Go.Deep
set_option linter.unusedVariables false
set_option linter.unusedSimpArgs false
/-! structs and slices of structs, opened down to their cells -/
section
variable {H : Type} {enc : TypeId × Value → H} {P : Program} {W : World} {base : Nat} {sp : Nat → Bool} {hd : Bool}
theorem field_cell {t : TypeId} {fs : Array Field} {fuel : Nat} {cs : List Value} {x : DataW H × List MemPlace} (ht : P.underlying t = some (.struct fs)) (h : DataW.trod enc P W base sp hd fuel t cs = some x)
    (i : Nat) (f : Field) (hf : fs[i]? = some f) (hc : P.cellsOf f.type = 1) (hb : f.offset < P.cellsOf t) : ∃ v n y, cs[f.offset]? = some v ∧ DataW.trod enc P W base sp hd n f.type [v] = some y := by
  obtain ⟨xs, n, _, _, hl, hx, hel⟩ := DataW.trod_struct ht h
  have hi : i < xs.length := by
    rw [hx]
    obtain ⟨h1, _⟩ := Array.getElem?_eq_some_iff.1 hf
    exact h1
  have g := hel i f hf
  have ho : f.offset < cs.length := by omega
  rw [hc, List.getElem?_eq_getElem hi] at g
  rw [show (cs.drop f.offset).take 1 = [cs[f.offset]] by rw [List.drop_eq_getElem_cons ho]; rfl] at g
  exact ⟨cs[f.offset], n, _, List.getElem?_eq_getElem ho, g⟩
theorem cell_int {t : TypeId} {k : IntKind} {n : Nat} {v : Value} {y : DataW H × List MemPlace} (ht : P.underlying t = some (.int k)) (h : DataW.trod enc P W base sp hd n t [v] = some y) : ∃ z, v = .int k z ∧ (Lit.int k z).wf = true := by
  obtain ⟨z, e, _, hw⟩ := DataW.trod_int ht h
  simp at e
  exact ⟨z, e, hw⟩
theorem cell_str {t : TypeId} {n : Nat} {v : Value} {y : DataW H × List MemPlace} (ht : P.underlying t = some .string) (h : DataW.trod enc P W base sp hd n t [v] = some y) : ∃ s, v = .string s ∧ s.size ≤ maxLen := by
  obtain ⟨z, e, _, hw⟩ := DataW.trod_string ht h
  simp at e
  exact ⟨z, e, hw⟩
theorem cell_bool {t : TypeId} {n : Nat} {v : Value} {y : DataW H × List MemPlace} (ht : P.underlying t = some .bool) (h : DataW.trod enc P W base sp hd n t [v] = some y) : ∃ b, v = .bool b := by
  obtain ⟨z, e, _⟩ := DataW.trod_bool ht h
  simp at e
  exact ⟨z, e⟩
/-- a slice that lies in cells: of each element the cells, read as one -/
theorem cell_slice {t e : TypeId} {n : Nat} {v : Value} {y : DataW H × List MemPlace} (ht : P.underlying t = some (.slice e)) (h0 : 0 < P.cellsOf e) (h : DataW.trod enc P W base sp hd n t [v] = some y) :
    ∃ A len cap, v = .slice A len cap ∧ len ≤ cap ∧ cap ≤ maxLen ∧ (A = none → len = 0 ∧ cap = 0) ∧ ∀ i, i < len → ∃ b off cs m z, A = some ⟨b, off, none⟩ ∧ cs.length = P.cellsOf e ∧ (∀ j u, cs[j]? = some u → W.cell? ⟨b, off + i * P.cellsOf e + j, none⟩ = some u) ∧ DataW.trod enc P W base sp hd m e cs = some z := by
  rcases open_slice ht h with ⟨e1, _⟩ | ⟨a, len, cap, m, k, D, Pl, e1, hb, hl, hm, hmm, _, hx⟩
  · simp at e1
    exact ⟨none, 0, 0, e1, Nat.le_refl _, Nat.zero_le _, fun _ => ⟨rfl, rfl⟩, fun i hi => absurd hi (by omega)⟩
  · simp at e1
    refine ⟨some a, len, cap, e1, hl, hm, fun h => (by cases h), fun i hi => ?_⟩
    have him : i < m := by rw [hmm]; split <;> omega
    obtain ⟨cs, h1, h2⟩ := hx i him
    obtain ⟨_, hlen, hcell⟩ := World.cells?_some h1
    obtain ⟨bb, off, spot⟩ := a
    have hspot : spot = none := by
      obtain ⟨cs0, h10, _⟩ := hx 0 (by omega)
      obtain ⟨_, hlen0, hcell0⟩ := World.cells?_some h10
      have g := hcell0 0 h0
      obtain ⟨u, hu⟩ : ∃ u, cs0[0]? = some u := ⟨_, List.getElem?_eq_getElem (by omega)⟩
      rw [hu] at g
      simpa [Addr.add] using World.cell?_spot g
    subst hspot
    refine ⟨bb, off, cs, k, _, rfl, hlen, fun j u hu => ?_, h2⟩
    have hj : j < P.cellsOf e := by
      have := (List.getElem?_eq_some_iff.1 hu).1; omega
    have g := hcell j hj
    rw [Deep.add_add, hu, Go.WideShapes.add_plain] at g
    rw [Nat.add_assoc]; exact g
end
theorem rec_int (a : Int) (h : (Lit.int .i64 a).wf = true) : -9223372036854775808 ≤ a ∧ a ≤ 9223372036854775807 := by simpa [Lit.wf, IntKind.min, IntKind.max, IntKind.signed, IntKind.bits] using h
theorem rec_byte (b : Int) (h : (Lit.int .u8 b).wf = true) : ∃ x : UInt8, b = (x.toNat : Int) := by
  have : 0 ≤ b ∧ b ≤ 255 := by simpa [Lit.wf, IntKind.min, IntKind.max, IntKind.signed, IntKind.bits] using h
  refine ⟨UInt8.ofNat b.toNat, ?_⟩
  simp
  omega
theorem reach_str {s : ByteArray} (h : s.data.toList.length ≤ reachBytes) : s.size ≤ 140737488351232 := by
  have e : s.data.toList.length = s.size := by first | (simp; done) | (simp; rfl)
  unfold reachBytes at h
  omega
end Go.Proofs.Ytoaiiimnfgbcaaa
