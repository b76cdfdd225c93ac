import Derived.Test.YtpbloennjcjgoaaDoorPostState
import Derived.Test.YtpbloennjcjgoaaDoorResC
import Derived.ProofKit
import Derived.LaidMore
import Derived.OpenShut
import Derived.Stop.Joined
namespace Go.Proofs.YtpbloennjcjgoaaDoor
open Go.ChangeShapes Go.WideShapes Go.ChangeAt Go.WideMaps Go.WideElems Go.RowKit
set_option linter.unusedVariables false
set_option linter.unusedSimpArgs false
def laidL : List (String × DataW Unit) := [("proctor/reset.mark", Rows.laid_proctor_reset_mark)]
theorem gMark : Tryd.prog.globalNamed "proctor/reset.mark" = some 0 := by kernel_rfl
theorem tMark : (Tryd.prog.globals[0]?).map (·.type) = some 80 := by kernel_rfl
theorem cByte : Tryd.prog.cellsOf 5 = 1 := by kernel_rfl
/-- the door's own heap meets the condition -/
theorem door_met (os : Os) (args : Array Value) : laidMetH Tryd.prog laidL ((World.doorLaid Tryd.prog 400 os).forCall (fun _ _ => 0) ⟨#[], args, []⟩).memory :=
  laidMetH_of_parts3 (fuel := 8) (laidMet_of_run' 8 (by kernel_rfl) (by kernel_rfl)) (by kernel_rfl) (by kernel_rfl)
/-! what the condition gives the walks -/
set_option maxRecDepth 100000 in
theorem mark_of {W : World} (h : laidMetH Tryd.prog laidL W) : Mark W := by
  rw [MakeChecks.laidMetH_plain _ _ _ (by kernel_rfl)] at h
  obtain ⟨ps, ⟨g0, t0, cs0, f0, p0, q0, hg0, ht0, hv0, hd0, _, _⟩, _, _⟩ := h
  obtain rfl := Option.some.inj (gMark.symm.trans hg0)
  obtain rfl := Option.some.inj (tMark.symm.trans ht0)
  obtain ⟨xs, m1, rfl, hx1, hlen, hn4, hel⟩ := DataW.trod_array Tryd.underlying80 hd0
  have key : ∀ (i : Nat) (n : Int), i < 4 → (xs.map (·.1))[i]? = some (.lit (.int .u8 n)) → W.cell? ⟨0, i, none⟩ = some (.int .u8 n) := by
    intro i n hi hx
    have h0 := hel i hi
    rw [cByte] at h0
    obtain ⟨x, hxi⟩ : ∃ x, xs[i]? = some x := ⟨_, List.getElem?_eq_getElem (by rw [hn4]; exact hi)⟩
    rw [hxi] at h0
    obtain ⟨k, e1, e2, _⟩ := DataW.trod_int Tryd.underlying5 h0
    have hk : k = n := by
      rw [List.getElem?_map, hxi, e2] at hx
      simpa using hx
    subst hk
    have hc := World.var?_cell hg0 hv0 i
    rw [hc]
    have : (cs0.toList.drop (i * 1)).head? = some (.int .u8 k) := by
      have := congrArg List.head? e1
      rw [List.head?_take] at this
      simpa using this
    simpa using this
  simp only [Prod.mk.injEq] at hx1
  have hxs : xs.map (·.1) = [.lit (.int .u8 80), .lit (.int .u8 82), .lit (.int .u8 83), .lit (.int .u8 49)] := by
    have := hx1.1
    simp [Rows.laid_proctor_reset_mark] at this
    exact this.symm
  have c0 := key 0 80 (by decide) (by rw [hxs]; rfl)
  exact ⟨World.block_lt_of_cell? W _ c0, c0, key 1 82 (by decide) (by rw [hxs]; rfl), key 2 83 (by decide) (by rw [hxs]; rfl), key 3 49 (by decide) (by rw [hxs]; rfl)⟩
end Go.Proofs.YtpbloennjcjgoaaDoor
