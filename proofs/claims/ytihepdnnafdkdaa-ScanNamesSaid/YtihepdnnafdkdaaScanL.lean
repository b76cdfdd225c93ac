import Derived.Test.YtihepdnnafdkdaaScanK
import Derived.Test.YtihepdnnafdkdaaShelf
namespace Go.Proofs.Ytihepdnnafdkdaa
open Go.RowKit
set_option linter.unusedVariables false
set_option linter.unusedSimpArgs false
theorem rune_any (r : Nat) (w : World) : Calls Try.prog 33 #[.int .i32 (r : Int)] w fun e w' => e = .returned (.bool (decide (r ≤ 32))) ∧ ∃ n, w' = w.drewN n := by
  by_cases h : r ≤ 32
  · have i : (r : Int) ≤ 32 := by omega
    go_enter Try.func33, Try.ntmps33
    go_wp2
    go_returns
    exact ⟨by first | rfl | (rw [decide_eq_true h]; rfl), 0, rfl⟩
  · have i : ¬ (r : Int) ≤ 32 := by omega
    go_enter Try.func33, Try.ntmps33
    go_wp2
    go_returns
    exact ⟨by first | rfl | (rw [decide_eq_false h]; rfl), 0, rfl⟩
theorem has_any (s : ByteArray) (w : World) : Calls Try.prog 32 #[.string s, .func (.func 33) #[] #[]] w fun e w' => e = .returned (.bool (!decide (stop isInk s 0 = s.size))) ∧ Below w.heap.size w w' := by
  have g := Try.strings_ContainsFunc 33 #[] (enters_of Try.func33 (by kernel_rfl) rfl) (fun r => decide (r ≤ 32)) s w (fun W x _ => rune_any x W)
  unfold Lib.idxFunc at g
  rw [idx_ink s s.size 0 (by omega) (by omega)] at g
  exact g
set_option maxHeartbeats 1000000 in
theorem name_any (s : ByteArray) (w : World) (hs : s.size ≤ maxLen) :
    Calls Try.prog 22 #[.string s] w fun e w' => e = .returned (.bool (nameOk s)) ∧ Below w.heap.size w w' := by
  have hs2 : s.size ≤ 9223372036854775807 := Nat.le_trans hs (by decide)
  by_cases h1 : s.size < 1
  · have e : s = ⟨#[]⟩ := by
      cases s; rename_i d
      have : d.size = 0 := by have h : d.size < 1 := h1; omega
      simpa using this
    subst e
    go_enter Try.func22, Try.ntmps22
    go_wp2
    go_returns
    exact ⟨by rw [nameOk_no _ (fun h => absurd h.1 (by decide))]; rfl, Below.refl _ _⟩
  · have n1 : s.toList.isEmpty = false := by
      rw [ByteArray.toList_eq]
      cases s; rename_i d
      have : ¬ d.size < 1 := h1
      simp [List.isEmpty_iff]
      intro g; subst g; exact this (by decide)
    by_cases h2 : 31 < s.size
    · have i1 : ¬ (s.size : Int) ≤ 31 := by omega
      go_enter Try.func22, Try.ntmps22
      go_wp2
      go_returns
      exact ⟨by rw [nameOk_no _ (by omega)]; rfl, Below.refl _ _⟩
    · have i1 : (s.size : Int) ≤ 31 := by omega
      cases hd : decide (stop isInk s 0 = s.size)
      · go_enter Try.func22, Try.ntmps22
        go_wp2_with (fail)
        refine (has_any s w).mono ?_
        rintro e w1 ⟨rfl, hb⟩
        rw [hd]
        go_wp2
        go_returns
        exact ⟨by rw [nameOk_no _ (fun h => of_decide_eq_false hd h.2.2)]; rfl, hb⟩
      · go_enter Try.func22, Try.ntmps22
        go_wp2_with (fail)
        refine (has_any s w).mono ?_
        rintro e w1 ⟨rfl, hb⟩
        rw [hd]
        go_wp2
        go_returns
        exact ⟨by rw [nameOk_yes _ (by omega) (by omega) (of_decide_eq_true hd)]; rfl, hb⟩
end Go.Proofs.Ytihepdnnafdkdaa
