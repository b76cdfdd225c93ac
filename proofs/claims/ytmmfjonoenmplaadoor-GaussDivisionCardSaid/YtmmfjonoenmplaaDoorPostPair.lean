import Derived.Test.YtmmfjonoenmplaaDoorPostRec
namespace Go.Proofs.YtmmfjonoenmplaaDoor
open Go.ChangeShapes Go.WideShapes Go.ChangeAt Go.RowKit
set_option linter.unusedVariables false
set_option linter.unusedSimpArgs false
theorem list2 {α : Type} (l : List α) (h : l.length = 2) : ∃ a b, l = [a, b] := by
  match l, h with
  | [a, b], _ => exact ⟨a, b, rfl⟩
theorem cells2 : Tryd.prog.cellsOf 54 = 2 := by kernel_rfl
theorem cellsI : Tryd.prog.cellsOf 3 = 1 := by kernel_rfl
/-- an array of two ints, opened -/
theorem open_pairG {H : Type} {enc : TypeId × Value → H} {P : Program} {W : World} {t e : TypeId} {base : Nat} {v : Value} {d : DataW H} {p : List MemPlace} {sp : Nat → Bool} {hd : Bool}
    (ht : P.underlying t = some (.array 2 e)) (hct : P.cellsOf t = 2) (hce : P.cellsOf e = 1) (he : P.underlying e = some (.int .i64))
    (hval : Value.okWide P W .any base t v) (h : DataW.Trod enc P W 0 sp hd t v d p) :
    ∃ b0 b1 : Int, v = .agg #[.int .i64 b0, .int .i64 b1] ∧
      (-9223372036854775808 ≤ b0 ∧ b0 ≤ 9223372036854775807) ∧ (-9223372036854775808 ≤ b1 ∧ b1 ≤ 9223372036854775807) := by
  obtain ⟨cs, rfl, hsz, _⟩ : ∃ cs, v = .agg cs ∧ cs.size = P.cellsOf t ∧ Row.okWide P W .any base t cs := by
    simpa [Value.okWide, ht] using hval
  rw [hct] at hsz
  obtain ⟨l⟩ := cs
  obtain ⟨c0, c1, rfl⟩ := list2 l hsz
  obtain ⟨fuel, hf⟩ := h
  obtain ⟨xs, m, _, hx, _, hn, hel⟩ := DataW.trod_array ht hf
  rw [hce] at hel
  replace hel : ∀ (i : Nat), i < 2 → DataW.trod enc P W 0 sp hd m e ((([c0, c1] : List Value).drop (i * 1)).take 1) = xs[i]? := hel
  have key : ∀ (i : Nat) (c : Value), i < 2 → (([c0, c1] : List Value).drop (i * 1)).take 1 = [c] → ∃ b : Int, c = .int .i64 b ∧ (-9223372036854775808 ≤ b ∧ b ≤ 9223372036854775807) := fun i c hi hc => by
    have h1 := hel i hi
    rw [hc] at h1
    obtain ⟨y, hy⟩ : ∃ y, xs[i]? = some y := ⟨xs[i]'(by omega), by simp [hn, hi]⟩
    rw [hy] at h1
    obtain ⟨k, ek, _, wk⟩ := DataW.trod_int he h1
    simp at ek
    exact ⟨k, ek, rec_int _ wk⟩
  obtain ⟨b0, rfl, w0⟩ := key 0 c0 (by omega) rfl
  obtain ⟨b1, rfl, w1⟩ := key 1 c1 (by omega) rfl
  exact ⟨b0, b1, rfl, w0, w1⟩
set_option maxRecDepth 100000 in
theorem open_pair {H : Type} {enc : TypeId × Value → H} {W : World} {base : Nat} {v : Value} {d : DataW H} {p : List MemPlace} {sp : Nat → Bool} {hd : Bool}
    (h : DataW.Trod enc Tryd.prog W 0 sp hd 54 v d p) (hval : Value.okWide Tryd.prog W .any base 54 v) :
    ∃ b0 b1 : Int, v = .agg #[.int .i64 b0, .int .i64 b1] ∧
      (-9223372036854775808 ≤ b0 ∧ b0 ≤ 9223372036854775807) ∧ (-9223372036854775808 ≤ b1 ∧ b1 ≤ 9223372036854775807) :=
  open_pairG Tryd.underlying54 cells2 cellsI Tryd.underlying3 hval h
end Go.Proofs.YtmmfjonoenmplaaDoor
