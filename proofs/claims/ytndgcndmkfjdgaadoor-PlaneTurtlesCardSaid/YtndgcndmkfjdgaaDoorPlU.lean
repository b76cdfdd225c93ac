import Derived.Test.YtndgcndmkfjdgaaDoorPlT
namespace Go.Proofs.YtndgcndmkfjdgaaDoor
open Go.RowKit Go.Extern.Stop Go.Stop Go.Extern
set_option linter.unusedVariables false
set_option linter.unusedSimpArgs false
/-! PlaneAreas: the plain law of a rectangle -/
def recZ (x y v1 v2 w h : Int) : List Mk :=
  [((x, y), (x + w * v1, y + w * v2)), ((x + w * v1, y + w * v2), (x + w * v1 - h * v2, y + w * v2 + h * v1)), ((x + w * v1 - h * v2, y + w * v2 + h * v1), (x - h * v2, y + h * v1)), ((x - h * v2, y + h * v1), (x, y))]
def Way4 (v1 v2 : Int) : Prop := v1 = 1 ∧ v2 = 0 ∨ v1 = 0 ∧ v2 = 1 ∨ v1 = -1 ∧ v2 = 0 ∨ v1 = 0 ∧ v2 = -1
theorem way4_turn (n : Int) : Way4 (turnZ (1, 0) n).1 (turnZ (1, 0) n).2 := by
  unfold Way4
  rcases turn_form (1, 0) n with ⟨_, e⟩ | ⟨_, e⟩ | ⟨_, e⟩ | ⟨_, e⟩ <;> rw [e] <;> simp
theorem rec_area (x y v1 v2 w h : Int) (hv : Way4 v1 v2) : areaZ (recZ x y v1 v2 w h) = 2 * w * h := by
  unfold Way4 at hv
  rcases hv with ⟨rfl, rfl⟩ | ⟨rfl, rfl⟩ | ⟨rfl, rfl⟩ | ⟨rfl, rfl⟩ <;> simp [areaZ, areaN, recZ] <;> grind
theorem rec_closed (x y v1 v2 w h : Int) : closedZ (recZ x y v1 v2 w h) := by
  refine ⟨by simp [recZ], fun i hi => ?_⟩
  have hi : i < 4 := hi
  rcases (by omega : i = 0 ∨ i = 1 ∨ i = 2 ∨ i = 3) with rfl | rfl | rfl | rfl <;> simp [recZ]
theorem rec_ok (x y v1 v2 w h : Int) (hv : Way4 v1 v2) (hx : -1000 ≤ x ∧ x ≤ 1000) (hy : -1000 ≤ y ∧ y ≤ 1000) (hw : 1 ≤ w ∧ w ≤ 1000) (hh : 1 ≤ h ∧ h ≤ 1000) : ∀ m ∈ recZ x y v1 v2 w h, mkOk m := by
  intro m hm
  simp [recZ] at hm
  unfold Way4 at hv
  rcases hv with ⟨rfl, rfl⟩ | ⟨rfl, rfl⟩ | ⟨rfl, rfl⟩ | ⟨rfl, rfl⟩ <;> rcases hm with rfl | rfl | rfl | rfl <;> (unfold mkOk Sm; simp only; omega)
/-- backwards -/
def backZ (zs : List Mk) : List Mk := zs.reverse.map fun m => (m.2, m.1)
theorem rec_back_area (x y v1 v2 w h : Int) (hv : Way4 v1 v2) : areaZ (backZ (recZ x y v1 v2 w h)) = -(2 * w * h) := by
  unfold Way4 at hv
  rcases hv with ⟨rfl, rfl⟩ | ⟨rfl, rfl⟩ | ⟨rfl, rfl⟩ | ⟨rfl, rfl⟩ <;> simp [areaZ, areaN, recZ, backZ] <;> grind
theorem rec_back_closed (x y v1 v2 w h : Int) : closedZ (backZ (recZ x y v1 v2 w h)) := by
  refine ⟨by simp [recZ, backZ], fun i hi => ?_⟩
  have hi : i < 4 := by simpa [recZ, backZ] using hi
  rcases (by omega : i = 0 ∨ i = 1 ∨ i = 2 ∨ i = 3) with rfl | rfl | rfl | rfl <;> simp [recZ, backZ]
theorem rec_moved (x y v1 v2 w h k : Int) : (recZ x y v1 v2 w h).map (both (fun z => (z.1 + 0, z.2 + k))) = recZ x (y + k) v1 v2 w h := by
  simp [recZ, both]
  omega
theorem dr_of {zs : List Mk} (hl : zs.length ≤ 4096) (h : ∀ m ∈ zs, mkOk m) : Dr (zs.map mkW) zs := by
  refine ⟨by simp, by simpa using hl, fun i hi => ?_⟩
  have hi2 : i < zs.length := by simpa using hi
  have e : zs.getD i m0 = zs[i] := by rw [List.getD_eq_getElem?_getD, List.getElem?_eq_getElem hi2]; rfl
  have hm := h zs[i] (List.getElem_mem hi2)
  rw [e, List.getElem_map]
  exact ⟨mkW_nk ⟨hm.1, hm.2.1⟩, hm⟩
end Go.Proofs.YtndgcndmkfjdgaaDoor
