import Derived.Test.YtndgcndmkfjdgaaDoorPlU
import Derived.Test.YtndgcndmkfjdgaaDoorPick
namespace Go.Proofs.YtndgcndmkfjdgaaDoor
open Go.RowKit Go.Extern.Stop Go.Stop Go.Extern
set_option linter.unusedVariables false
set_option linter.unusedSimpArgs false
/-! PlaneAreas: steps -/
theorem step_go {w W : World} {t : Nat} {V : Value} {a v : Pt} {ms : List Mk} (T : Tt W w.heap.size t V a v false ms) (hB : Below w.heap.size w W) (ht : w.heap.size ≤ t) (n : Int) (b : Pt) (hb : toZ a v n = b) (hs : Sm b 16777216) :
    Calls Tryd.prog 21 #[.pointer (some ⟨t, 0, none⟩), .int .i64 n] W fun e W' => e = .returned (.int .i64 0) ∧ Tt W' w.heap.size t V b v false ms ∧ Below w.heap.size w W' := by
  subst hb
  refine (tfwd_go T n hs (.inl rfl)).mono ?_
  rintro e W' ⟨rfl, hT, hd⟩
  exact ⟨rfl, hT, hB.trans (hd.below ht (fun k hk => own_ge T.row k hk) hB.size)⟩
theorem step_turnd {w W : World} {t : Nat} {V : Value} {a v : Pt} {dn : Bool} {ms : List Mk} (T : Tt W w.heap.size t V a v dn ms) (hB : Below w.heap.size w W) (ht : w.heap.size ≤ t) (n : Int) (u : Pt) (hu : turnZ v n = u) :
    Calls Tryd.prog 28 #[.pointer (some ⟨t, 0, none⟩), .int .i64 n] W fun e W' => e = .returned (.tuple #[]) ∧ Tt W' w.heap.size t V a u dn ms ∧ Below w.heap.size w W' := by
  subst hu
  refine (tturn T n).mono ?_
  rintro e W' ⟨rfl, hT, hd⟩
  exact ⟨rfl, hT, hB.trans (hd.below ht hB.size)⟩
theorem step_pen {w W : World} {t : Nat} {V : Value} {a v : Pt} {dn : Bool} {ms : List Mk} (T : Tt W w.heap.size t V a v dn ms) (hB : Below w.heap.size w W) (ht : w.heap.size ≤ t) (d : Bool) :
    Calls Tryd.prog 22 #[.pointer (some ⟨t, 0, none⟩), .bool d] W fun e W' => e = .returned (.tuple #[]) ∧ Tt W' w.heap.size t V a v d ms ∧ Below w.heap.size w W' := by
  refine (tpen T d).mono ?_
  rintro e W' ⟨rfl, hT, hd⟩
  exact ⟨rfl, hT, hB.trans (hd.below ht hB.size)⟩
/-- where the turtle is, and its way, before side i -/
def corn (x v1 v2 w h : Int) (i : Nat) : Pt := ((recZ x 0 v1 v2 w h).getD i ((x, 0), (x, 0))).1
def sideW (v1 v2 : Int) : Nat → Pt
  | 0 => (v1, v2)
  | i + 1 => rotZ (sideW v1 v2 i)
theorem turn_one (v : Pt) : turnZ v 1 = rotZ v := rfl
/-- a side, drawn -/
theorem side_next (x v1 v2 w h : Int) (i : Nat) (hi : i < 4) : toZ (corn x v1 v2 w h i) (sideW v1 v2 i) (if i % 2 = 1 then h else w) = corn x v1 v2 w h (i + 1) ∧ (recZ x 0 v1 v2 w h).take (i + 1) = (recZ x 0 v1 v2 w h).take i ++ [(corn x v1 v2 w h i, corn x v1 v2 w h (i + 1))] := by
  rcases (by omega : i = 0 ∨ i = 1 ∨ i = 2 ∨ i = 3) with rfl | rfl | rfl | rfl
  all_goals
    simp [corn, recZ, sideW, toZ, rotZ]
  all_goals grind
theorem corn_sm (x v1 v2 w h : Int) (hv : Way4 v1 v2) (hx : -1000 ≤ x ∧ x ≤ 1000) (hw : 1 ≤ w ∧ w ≤ 1000) (hh : 1 ≤ h ∧ h ≤ 1000) (i : Nat) : Sm (corn x v1 v2 w h i) 16777216 := by
  unfold corn
  by_cases hi : i < (recZ x 0 v1 v2 w h).length
  · rw [List.getD_eq_getElem?_getD, List.getElem?_eq_getElem hi]
    exact (rec_ok x 0 v1 v2 w h hv hx (by decide) hw hh _ (List.getElem_mem hi)).1
  · rw [List.getD_eq_getElem?_getD, List.getElem?_eq_none (by omega)]
    unfold Sm; simp; omega
end Go.Proofs.YtndgcndmkfjdgaaDoor
