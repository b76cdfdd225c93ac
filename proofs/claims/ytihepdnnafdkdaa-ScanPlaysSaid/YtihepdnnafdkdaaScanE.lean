import Derived.Test.YtihepdnnafdkdaaScanD
namespace Go.Proofs.Ytihepdnnafdkdaa
open Go.RowKit
set_option linter.unusedVariables false
set_option linter.unusedSimpArgs false
/-- the first example's text -/
def eg : ByteArray := ⟨#[97, 32, 32, 98, 99, 10, 100]⟩
theorem eg_word (b : Nat) (k i n : Nat) (x : Array UInt8) (w : World) (h : Src w b eg k) (h1 : k ≤ eg.size) (h2 : wNext eg k = n) (h3 : eg.extract (wBeg eg k) (wEnd eg k) = ⟨x⟩) (h4 : (n : Int) - k = i) :
    Calls Try.prog 9 #[.pointer (some ⟨b, 0, none⟩)] w fun e w' => e = .returned (.tuple #[.string ⟨x⟩, .int .i64 i]) ∧ Src w' b eg n ∧ Only b w w' := by
  have := word_any b eg k w h h1 (by decide)
  rw [h2, h3, h4] at this
  exact this
theorem eg_line (b : Nat) (w : World) (h : Src w b eg 6) : Calls Try.prog 18 #[.pointer (some ⟨b, 0, none⟩)] w fun e w' => e = .returned (.int .i64 2) ∧ w' = w := by
  have := line_any b eg 6 w h (by decide)
  rw [show ((lfs eg 6 : Nat) : Int) + 1 = 2 by decide] at this
  exact this
set_option maxHeartbeats 1000000 in
theorem shown_any (w : World) : Calls Try.prog 7 #[] w fun e w' => e = .returned (.bool true) ∧ Below w.heap.size w w' := by
  go_enter Try.func7, Try.ntmps7
  go_wp2_with (fail)
  refine (new_ok eg w (by decide)).mono ?_
  rintro e w0 ⟨rfl, rfl⟩
  go_wp2_with (fail)
  have hS0 := new_src eg w
  refine (eg_word _ 0 2 2 #[97] _ hS0 (by decide) (by decide) (by decide) (by decide)).mono ?_
  rintro e w1 ⟨rfl, hS1, hO1⟩
  go_wp2_with (fail)
  refine (eg_word _ 2 4 6 #[98, 99] _ hS1 (by decide) (by decide) (by decide) (by decide)).mono ?_
  rintro e w2 ⟨rfl, hS2, hO2⟩
  go_wp2_with (fail)
  refine (at_any _ eg 6 _ hS2).mono ?_
  rintro e w3 ⟨rfl, rfl⟩
  go_wp2_with (fail)
  refine (eg_line _ _ hS2).mono ?_
  rintro e w3 ⟨rfl, rfl⟩
  go_wp2_with (fail)
  refine (eg_word _ 6 1 7 #[100] _ hS2 (by decide) (by decide) (by decide) (by decide)).mono ?_
  rintro e w4 ⟨rfl, hS4, hO4⟩
  go_wp2_with (fail)
  refine (eg_word _ 7 0 7 #[] _ hS4 (by decide) (by decide) (by decide) (by decide)).mono ?_
  rintro e w5 ⟨rfl, hS5, hO5⟩
  go_wp2
  go_returns
  exact ⟨rfl, (((((((Only.refl w.heap.size w).past _).trans hO1).trans hO2).trans hO4).trans hO5)).below (Nat.le_refl _) (Nat.le_refl _)⟩
end Go.Proofs.Ytihepdnnafdkdaa
