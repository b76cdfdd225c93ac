import Derived.Test.YtihepdnnafdkdaaScanB
namespace Go.Proofs.Ytihepdnnafdkdaa
open Go.RowKit
set_option linter.unusedVariables false
set_option linter.unusedSimpArgs false
theorem nxt_ge (s : ByteArray) (k : Nat) : k ≤ nxt s k := by unfold nxt; split <;> omega
theorem nxt_le (s : ByteArray) (k : Nat) (h : k ≤ s.size) : nxt s k ≤ s.size := by unfold nxt; split <;> omega
/-- a word: where it begins, where it ends, where the source stands behind it -/
def wBeg (s : ByteArray) (k : Nat) : Nat := stop isBlank s k
def wEnd (s : ByteArray) (k : Nat) : Nat := stop isInk s (wBeg s k)
def wNext (s : ByteArray) (k : Nat) : Nat := nxt s (wEnd s k)
def lNext (s : ByteArray) (k : Nat) : Nat := nxt s (stop (isNot 10) s k)
theorem w_bounds (s : ByteArray) (k : Nat) (h : k ≤ s.size) : k ≤ wBeg s k ∧ wBeg s k ≤ s.size ∧ wBeg s k ≤ wEnd s k ∧ wEnd s k ≤ s.size ∧ wEnd s k ≤ wNext s k ∧ wNext s k ≤ s.size := by
  have h1 := stop_le isBlank s k h
  have h2 := stop_le isInk s (wBeg s k) h1
  exact ⟨stop_ge _ _ _, h1, stop_ge _ _ _, h2, nxt_ge _ _, nxt_le _ _ h2⟩
theorem l_bounds (s : ByteArray) (k : Nat) (h : k ≤ s.size) : k ≤ lNext s k ∧ lNext s k ≤ s.size := by
  have h1 := stop_le (isNot 10) s k h
  have h2 := stop_ge (isNot 10) s k
  have h3 := nxt_ge s (stop (isNot 10) s k)
  exact ⟨by unfold lNext; omega, nxt_le _ _ h1⟩
theorem new_long (s : ByteArray) (w : World) (h : 60000 < s.size) :
    Calls Try.prog 8 #[.string s] w fun e w' => e = .returned (.tuple #[.pointer none, .int .i64 2]) ∧ w' = w := by
  have h1 : (60000 : Int) < s.size := by omega
  go_enter Try.func8, Try.ntmps8
  go_wp2
  go_returns
  exact ⟨rfl, rfl⟩
theorem new_ok (s : ByteArray) (w : World) (h : s.size ≤ 60000) :
    Calls Try.prog 8 #[.string s] w fun e w' => e = .returned (.tuple #[.pointer (some ⟨w.heap.size, 0, none⟩), .int .i64 0]) ∧ w' = w.alloc (.cells #[.string s, .int .i64 0, .int .i64 0] 53) := by
  have h1 : ¬ (60000 : Int) < s.size := by omega
  go_enter Try.func8, Try.ntmps8
  go_wp2
  go_returns
  exact ⟨rfl, rfl⟩
theorem new_src (s : ByteArray) (w : World) : Src (w.alloc (.cells #[.string s, .int .i64 0, .int .i64 0] 53)) w.heap.size s 0 := Bk.fresh _ _ _
theorem at_any (b : Nat) (s : ByteArray) (k : Nat) (w : World) (h : Src w b s k) :
    Calls Try.prog 10 #[.pointer (some ⟨b, 0, none⟩)] w fun e w' => e = .returned (.int .i64 k) ∧ w' = w := by
  have c1 : w.cell? ⟨b, 1, none⟩ = some (.int .i64 k) := h.cell 1
  go_enter Try.func10, Try.ntmps10
  go_wp2
  go_returns
  exact ⟨rfl, rfl⟩
theorem line_any (b : Nat) (s : ByteArray) (k : Nat) (w : World) (h : Src w b s k) (hk : k ≤ 60000) :
    Calls Try.prog 18 #[.pointer (some ⟨b, 0, none⟩)] w fun e w' => e = .returned (.int .i64 (lfs s k + 1)) ∧ w' = w := by
  have c2 : w.cell? ⟨b, 2, none⟩ = some (.int .i64 (lfs s k)) := h.cell 2
  have hl := lfs_le s k
  go_enter Try.func18, Try.ntmps18
  go_wp2
  go_returns
  exact ⟨rfl, rfl⟩
set_option maxHeartbeats 400000 in
theorem word_any (b : Nat) (s : ByteArray) (k : Nat) (w : World) (h : Src w b s k) (hk : k ≤ s.size) (hs : s.size ≤ 60000) :
    Calls Try.prog 9 #[.pointer (some ⟨b, 0, none⟩)] w fun e w' => e = .returned (.tuple #[.string (s.extract (wBeg s k) (wEnd s k)), .int .i64 ((wNext s k : Int) - k)]) ∧ Src w' b s (wNext s k) ∧ Only b w w' := by
  have c1 : w.cell? ⟨b, 1, none⟩ = some (.int .i64 k) := h.cell 1
  obtain ⟨b1, b2, b3, b4, b5, b6⟩ := w_bounds s k hk
  go_enter Try.func9, Try.ntmps9
  go_wp2_with (fail)
  refine (goes_blank b s k _ h hk hs).mono ?_
  rintro e w1 ⟨rfl, hS1, hO1⟩
  clear c1
  go_wp2_with (fail)
  refine (goes_ink b s (wBeg s k) _ hS1 b2 hs).mono ?_
  rintro e w2 ⟨rfl, hS2, hO2⟩
  go_wp2_with (fail)
  refine (step_any b s (wEnd s k) _ hS2 b4 hs).mono ?_
  rintro e w3 ⟨rfl, hS3, hO3⟩
  have c3 : w3.cell? ⟨b, 1, none⟩ = some (.int .i64 (wNext s k)) := hS3.cell 1
  go_wp2
  go_quiet (fail)
  go_wp2
  go_returns
  exact ⟨rfl, hS3.draws _, ((hO1.trans hO2).trans hO3).draws _⟩
set_option maxHeartbeats 400000 in
theorem rest_any (b : Nat) (s : ByteArray) (k : Nat) (w : World) (h : Src w b s k) (hk : k ≤ s.size) (hs : s.size ≤ 60000) :
    Calls Try.prog 16 #[.pointer (some ⟨b, 0, none⟩)] w fun e w' => e = .returned (.int .i64 ((lNext s k : Int) - k)) ∧ Src w' b s (lNext s k) ∧ Only b w w' := by
  have c1 : w.cell? ⟨b, 1, none⟩ = some (.int .i64 k) := h.cell 1
  obtain ⟨b5, b6⟩ := l_bounds s k hk
  go_enter Try.func16, Try.ntmps16
  go_wp2_with (fail)
  refine (goes_nl b s k _ h hk hs).mono ?_
  rintro e w1 ⟨rfl, hS1, hO1⟩
  clear c1
  go_wp2_with (fail)
  refine (step_any b s _ _ hS1 (stop_le _ _ _ hk) hs).mono ?_
  rintro e w3 ⟨rfl, hS3, hO3⟩
  have c3 : w3.cell? ⟨b, 1, none⟩ = some (.int .i64 (lNext s k)) := hS3.cell 1
  go_wp2
  go_returns
  exact ⟨rfl, hS3, hO1.trans hO3⟩
end Go.Proofs.Ytihepdnnafdkdaa
