import Derived.Test.YtoaiiimnfgbcaaaPostReach
namespace Go.Proofs.Ytoaiiimnfgbcaaa
open Go.ChangeShapes Go.WideShapes Go.ChangeAt Go.RowKit Go.Deep
set_option linter.unusedVariables false
set_option linter.unusedSimpArgs false
/-! the reach, carried down into what lies in slices and structs -/
/-- a datum keeps the reach, all the way down -/
def Fit {H : Type} (P : Program) (t : TypeId) (d : DataW H) : Prop := ∀ n ∈ d.weights P t, n ≤ reachBytes
section
variable {H : Type} {enc : TypeId × Value → H} {P : Program} {W : World} {base : Nat} {hdn : Bool}
theorem fit_each {ts : List TypeId} {ds : List (DataW H)} (hsz : (DataW.weightsEach P ts ds).all (· ≤ reachBytes) = true) {j : Nat} {t : TypeId} {d : DataW H} (ht : ts[j]? = some t) (hd : ds[j]? = some d) : Fit P t d := fun n hn => by
  have := List.all_eq_true.1 hsz _ (DataW.weights_mem_each ht hd n hn)
  simpa using this
theorem weightsAll_mem {e : TypeId} : ∀ {l : List (DataW H)} {i : Nat} {d : DataW H}, l[i]? = some d → ∀ n ∈ d.weights P e, n ∈ DataW.weightsAll P e l
  | a :: l, 0, d, h, n, hn => by
    simp only [List.getElem?_cons_zero, Option.some.injEq] at h
    subst h
    simp only [DataW.weightsAll, List.mem_append]
    exact Or.inl hn
  | a :: l, i + 1, d, h, n, hn => by
    simp only [List.getElem?_cons_succ] at h
    simp only [DataW.weightsAll, List.mem_append]
    exact Or.inr (weightsAll_mem h n hn)
  | [], _, _, h, _, _ => by simp at h
theorem fit_str {t : TypeId} {bs : List UInt8} (h : Fit P t (.lit (.string bs) : DataW H)) : bs.length ≤ 140737488351232 := by
  have := h bs.length (by simp [DataW.weights])
  unfold reachBytes at this
  omega
/-- a struct's field: its cell, its reading, its reach -/
theorem field_fit {t : TypeId} {fs : Array Field} {fuel : Nat} {cs : List Value} {x : DataW H × List MemPlace} (ht : P.underlying t = some (.struct fs)) (h : DataW.trod enc P W base (fun _ => true) hdn fuel t cs = some x) (hF : Fit P t x.1)
    (i : Nat) (f : Field) (hf : fs[i]? = some f) (hc : P.cellsOf f.type = 1) (hb : f.offset < P.cellsOf t) : ∃ v n y, cs[f.offset]? = some v ∧ DataW.trod enc P W base (fun _ => true) hdn n f.type [v] = some y ∧ Fit P f.type y.1 := by
  obtain ⟨xs, n, _, hxx, hl, hx, hel⟩ := DataW.trod_struct ht h
  have hi : i < xs.length := by
    rw [hx]
    obtain ⟨h1, _⟩ := Array.getElem?_eq_some_iff.1 hf
    exact h1
  have g := hel i f hf
  have ho : f.offset < cs.length := by omega
  rw [hc, List.getElem?_eq_getElem hi] at g
  rw [show (cs.drop f.offset).take 1 = [cs[f.offset]] by rw [List.drop_eq_getElem_cons ho]; rfl] at g
  refine ⟨cs[f.offset], n, _, List.getElem?_eq_getElem ho, g, fun m hm => hF m ?_⟩
  rw [hxx]
  simp only [DataW.weights, ht]
  refine DataW.weights_mem_each (j := i) (t := f.type) (d := (xs[i]).1) ?_ ?_ m hm
  · rw [List.getElem?_map, Array.getElem?_toList, hf]; rfl
  · rw [List.getElem?_map, List.getElem?_eq_getElem hi]; rfl
/-- a slice that lies in cells: of each element the cells, read as one; the reach of all -/
theorem slice_fit {t e : TypeId} {n : Nat} {v : Value} {y : DataW H × List MemPlace} (ht : P.underlying t = some (.slice e)) (h0 : 0 < P.cellsOf e) (h1 : 0 < P.bytesOf e) (h : DataW.trod enc P W base (fun _ => true) hdn n t [v] = some y) (hF : Fit P t y.1) :
    ∃ A len cap, v = .slice A len cap ∧ len ≤ cap ∧ cap * P.bytesOf e ≤ reachBytes ∧ cap ≤ 140737488351232 ∧ (A = none → len = 0 ∧ cap = 0) ∧ ∀ i, i < len → ∃ b off cs m z, A = some ⟨b, off, none⟩ ∧ cs.length = P.cellsOf e ∧ (∀ j u, cs[j]? = some u → W.cell? ⟨b, off + i * P.cellsOf e + j, none⟩ = some u) ∧ DataW.trod enc P W base (fun _ => true) hdn m e cs = some z ∧ Fit P e z.1 := by
  rcases open_slice ht h with ⟨e1, _⟩ | ⟨a, len, cap, m, k, D, Pl, e1, hb, hl, hm, hmm, hxx, hx⟩
  · simp at e1
    exact ⟨none, 0, 0, e1, Nat.le_refl _, by simp, by omega, fun _ => ⟨rfl, rfl⟩, fun i hi => absurd hi (by omega)⟩
  · simp at e1
    simp only [if_true] at hmm
    subst hmm
    have hw : m * P.bytesOf e ≤ reachBytes := by
      have := hF (((List.range len).map D).length * P.bytesOf e + ((List.range (m - len)).map fun j => D (len + j)).length * P.bytesOf e) (by
        rw [hxx]; simp only [DataW.weights, ht]; rw [Nat.add_mul]; exact List.mem_cons_self ..)
      simp only [List.length_map, List.length_range] at this
      rw [← Nat.add_mul, show len + (m - len) = m by omega] at this
      exact this
    have hle : m ≤ m * P.bytesOf e := Nat.le_mul_of_pos_right m h1
    have hw2 : m ≤ 140737488351232 := by unfold reachBytes at hw; omega
    refine ⟨some a, len, m, e1, hl, hw, hw2, fun h => (by cases h), fun i hi => ?_⟩
    obtain ⟨cs, g1, g2⟩ := hx i (by omega)
    obtain ⟨_, hlen, hcell⟩ := World.cells?_some g1
    obtain ⟨bb, off, spot⟩ := a
    have hspot : spot = none := by
      obtain ⟨cs0, h10, _⟩ := hx 0 (by omega)
      obtain ⟨_, hlen0, hcell0⟩ := World.cells?_some h10
      have g := hcell0 0 h0
      obtain ⟨u, hu⟩ : ∃ u, cs0[0]? = some u := ⟨_, List.getElem?_eq_getElem (by omega)⟩
      rw [hu] at g
      simpa [Addr.add] using World.cell?_spot g
    subst hspot
    refine ⟨bb, off, cs, k, _, rfl, hlen, fun j u hu => ?_, g2, fun x hxm => hF x ?_⟩
    · have hj : j < P.cellsOf e := by
        have := (List.getElem?_eq_some_iff.1 hu).1; omega
      have g := hcell j hj
      rw [Deep.add_add, hu, Go.WideShapes.add_plain] at g
      rw [Nat.add_assoc]; exact g
    · rw [hxx]
      simp only [DataW.weights, ht]
      refine List.mem_cons_of_mem _ (List.mem_append.2 (.inl (weightsAll_mem (i := i) (d := D i) ?_ x hxm)))
      rw [List.getElem?_map, List.getElem?_range hi]; rfl
theorem fit_string {t : TypeId} {n : Nat} {v : Value} {y : DataW H × List MemPlace} (ht : P.underlying t = some .string) (h : DataW.trod enc P W base (fun _ => true) hdn n t [v] = some y) (hF : Fit P t y.1) : ∃ s, v = .string s ∧ s.size ≤ 140737488351232 := by
  obtain ⟨z, e, hy, hw⟩ := DataW.trod_string ht h
  simp at e
  subst e
  refine ⟨z, rfl, ?_⟩
  have hF2 := hF
  rw [show y.1 = _ from congrArg Prod.fst hy] at hF2
  have := fit_str hF2
  simpa using this
/-- a slice's length is no more than what there is room for -/
theorem slice_cap {t e : TypeId} {A : Option Addr} {n c : Nat} {d : DataW H} {p : List MemPlace} (hu : P.underlying t = some (.slice e)) (h : DataW.Trod enc P W base (fun _ => true) hdn t (.slice A n c) d p) : n ≤ c := by
  obtain ⟨fuel, hf⟩ := h
  rcases open_slice hu hf with ⟨e1, _⟩ | ⟨a, len, cap, m, k, D, Pl, e1, _, hl, hm, hmm, hx, _⟩
  · injection e1 with e1
    injection e1 with _ e2
    omega
  · have e0 : [Value.slice A n c] = [Value.slice (some a) len cap] := e1
    injection e0 with e0
    injection e0 with _ e2 e3
    omega
/-- the whole of an argument -/
theorem Fit.of {ts : List TypeId} {ds : List (DataW H)} (hsz : (DataW.weightsEach P ts ds).all (· ≤ reachBytes) = true) {j : Nat} {t : TypeId} {d : DataW H} (ht : ts[j]? = some t) (hd : ds[j]? = some d) {v : Value} {p : List MemPlace} (h : DataW.Trod enc P W base (fun _ => true) hdn t v d p) : ∃ fuel y, DataW.trod enc P W base (fun _ => true) hdn fuel t v.cells.toList = some y ∧ Fit P t y.1 := by
  obtain ⟨fuel, hf⟩ := h
  exact ⟨fuel, _, hf, fit_each hsz ht hd⟩
end
end Go.Proofs.Ytoaiiimnfgbcaaa
