import Derived.Test.YtfifbkcgaohhbaaPost
namespace Go.Proofs.Ytfifbkcgaohhbaa
open Go.ChangeShapes Go.WideShapes Go.ChangeAt Go.RowKit
set_option linter.unusedVariables false
set_option linter.unusedSimpArgs false
theorem list8 {α : Type} (l : List α) (h : l.length = 8) : ∃ a b c d e f g i, l = [a, b, c, d, e, f, g, i] := by
  match l, h with
  | [a, b, c, d, e, f, g, i], _ => exact ⟨a, b, c, d, e, f, g, i, rfl⟩
/-- an array of eight bytes, opened -/
theorem open_arr8 {H : Type} {enc : TypeId × Value → H} {P : Program} {W : World} {t e : TypeId} {base : Nat} {v : Value} {d : DataW H} {p : List MemPlace} {sp : Nat → Bool} {hd : Bool}
    (ht : P.underlying t = some (.array 8 e)) (hct : P.cellsOf t = 8) (hce : P.cellsOf e = 1) (he : P.underlying e = some (.int .u8))
    (hval : Value.okWide P W .any base t v) (h : DataW.Trod enc P W 0 sp hd t v d p) :
    ∃ b0 b1 b2 b3 b4 b5 b6 b7 : Int, v = .agg #[.int .u8 b0, .int .u8 b1, .int .u8 b2, .int .u8 b3, .int .u8 b4, .int .u8 b5, .int .u8 b6, .int .u8 b7] ∧
      (0 ≤ b0 ∧ b0 ≤ 255) ∧ (0 ≤ b1 ∧ b1 ≤ 255) ∧ (0 ≤ b2 ∧ b2 ≤ 255) ∧ (0 ≤ b3 ∧ b3 ≤ 255) ∧ (0 ≤ b4 ∧ b4 ≤ 255) ∧ (0 ≤ b5 ∧ b5 ≤ 255) ∧ (0 ≤ b6 ∧ b6 ≤ 255) ∧ (0 ≤ b7 ∧ b7 ≤ 255) := by
  obtain ⟨cs, rfl, hsz, _⟩ : ∃ cs, v = .agg cs ∧ cs.size = P.cellsOf t ∧ Row.okWide P W .any base t cs := by
    simpa [Value.okWide, ht] using hval
  rw [hct] at hsz
  obtain ⟨l⟩ := cs
  obtain ⟨c0, c1, c2, c3, c4, c5, c6, c7, rfl⟩ := list8 l hsz
  obtain ⟨fuel, hf⟩ := h
  obtain ⟨xs, m, _, hx, _, hn, hel⟩ := DataW.trod_array ht hf
  rw [hce] at hel
  replace hel : ∀ (i : Nat), i < 8 → DataW.trod enc P W 0 sp hd m e ((([c0, c1, c2, c3, c4, c5, c6, c7] : List Value).drop (i * 1)).take 1) = xs[i]? := hel
  have key : ∀ (i : Nat) (c : Value), i < 8 → (([c0, c1, c2, c3, c4, c5, c6, c7] : List Value).drop (i * 1)).take 1 = [c] → ∃ b : Int, c = .int .u8 b ∧ 0 ≤ b ∧ b ≤ 255 := fun i c hi hc => by
    have h1 := hel i hi
    rw [hc] at h1
    obtain ⟨y, hy⟩ : ∃ y, xs[i]? = some y := ⟨xs[i]'(by omega), by simp [hn, hi]⟩
    rw [hy] at h1
    obtain ⟨k, ek, _, wk⟩ := DataW.trod_int he h1
    simp at ek
    exact ⟨k, ek, bounds_u8 wk⟩
  obtain ⟨b0, rfl, w0⟩ := key 0 c0 (by omega) rfl
  obtain ⟨b1, rfl, w1⟩ := key 1 c1 (by omega) rfl
  obtain ⟨b2, rfl, w2⟩ := key 2 c2 (by omega) rfl
  obtain ⟨b3, rfl, w3⟩ := key 3 c3 (by omega) rfl
  obtain ⟨b4, rfl, w4⟩ := key 4 c4 (by omega) rfl
  obtain ⟨b5, rfl, w5⟩ := key 5 c5 (by omega) rfl
  obtain ⟨b6, rfl, w6⟩ := key 6 c6 (by omega) rfl
  obtain ⟨b7, rfl, w7⟩ := key 7 c7 (by omega) rfl
  exact ⟨b0, b1, b2, b3, b4, b5, b6, b7, rfl, w0, w1, w2, w3, w4, w5, w6, w7⟩
theorem cells8 : Try.prog.cellsOf 42 = 8 := by kernel_rfl
theorem cellsB : Try.prog.cellsOf 5 = 1 := by kernel_rfl
end Go.Proofs.Ytfifbkcgaohhbaa
