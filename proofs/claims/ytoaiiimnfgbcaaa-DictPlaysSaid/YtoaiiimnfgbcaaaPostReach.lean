import Derived.Test.YtoaiiimnfgbcaaaPostRec
import Derived.SizedLaws
namespace Go.Proofs.Ytoaiiimnfgbcaaa
open Go.ChangeShapes Go.WideShapes Go.ChangeAt Go.RowKit Go.Deep
set_option linter.unusedVariables false
set_option linter.unusedSimpArgs false
/-- a slice that came in has no more elements than the reach lets -/
theorem slice_reach {H : Type} {enc : TypeId × Value → H} {P : Program} {W : World} {base : Nat} {hdn : Bool} {t e : TypeId} {A : Option Addr} {n c : Nat} {d : DataW H} {p : List MemPlace} {ts : List TypeId} {ds : List (DataW H)} {j : Nat}
    (hu : P.underlying t = some (.slice e)) (h : DataW.Trod enc P W base (fun _ => true) hdn t (.slice A n c) d p) (hsz : (DataW.weightsEach P ts ds).all (· ≤ reachBytes) = true)
    (ht : ts[j]? = some t) (hd : ds[j]? = some d) (hb : 0 < P.bytesOf e) : n ≤ 140737488351232 := by
  obtain ⟨fuel, hf⟩ := h
  rcases open_slice hu hf with ⟨e1, _⟩ | ⟨a, len, cap, m, k, D, Pl, e1, _, hl, hm, hmm, hx, _⟩
  · injection e1 with e1
    injection e1 with _ e2
    omega
  · have e0 : [Value.slice A n c] = [Value.slice (some a) len cap] := e1
    injection e0 with e0
    injection e0 with _ e2 e3
    injection hx with hd2 _
    rw [hd2] at hd
    have := sized_slice hsz ht hd hu
    simp only [List.length_map, List.length_range] at this
    simp only [if_true] at hmm
    subst hmm
    have h1 : len + (m - len) = m := by omega
    rw [h1] at this
    have h2 : m ≤ m * P.bytesOf e := Nat.le_mul_of_pos_right m hb
    unfold reachBytes at this
    omega
end Go.Proofs.Ytoaiiimnfgbcaaa
