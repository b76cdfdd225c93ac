import Derived.Test.YtihepdnnafdkdaaScanE
namespace Go.Proofs.Ytihepdnnafdkdaa
open Go.RowKit
set_option linter.unusedVariables false
set_option linter.unusedSimpArgs false
theorem pick_any (c n : Int) (w : World) (hc1 : -9223372036854775808 ≤ c) (hc2 : c ≤ 9223372036854775807) (hn : 0 < n) (hn2 : n < 1000) : Calls Try.prog 12 #[.int .i64 c, .int .i64 n] w fun e w' => ∃ r : Nat, e = .returned (.int .i64 r) ∧ (r : Int) < n ∧ w' = w := by
  have h1 : decide (n = 0) = false := by simp; omega
  by_cases h : c < 0
  · have hd : decide (c < 0) = true := by simpa using h
    go_enter Try.func12, Try.ntmps12
    go_wp2
    go_returns
    have e : -((c + 1).tmod n) = (-(c + 1)) % n := by
      rw [← Int.neg_tmod, Int.tmod_eq_emod_of_nonneg (by omega)]
    have g1 := Int.emod_nonneg (-(c + 1)) (by omega : n ≠ 0)
    have g2 := Int.emod_lt_of_pos (-(c + 1)) hn
    refine ⟨((-(c + 1)) % n).toNat, ?_, by omega, rfl⟩
    rw [Int.toNat_of_nonneg g1, ← e]; rfl
  · have hd : decide (c < 0) = false := by simpa using h
    go_enter Try.func12, Try.ntmps12
    go_wp2
    go_returns
    have g1 := Int.emod_nonneg c (by omega : n ≠ 0)
    have g2 := Int.emod_lt_of_pos c hn
    refine ⟨(c % n).toNat, ?_, by omega, rfl⟩
    rw [Int.toNat_of_nonneg g1]; rfl
/-! what is read hangs on what is left alone -/
theorem tail_size (s : ByteArray) (a : Nat) (h : a ≤ s.size) : (s.extract a s.size).size = s.size - a := by
  simp [ByteArray.size_extract]
theorem tail_get (s : ByteArray) (a j : Nat) (h : a ≤ s.size) (hj : j < s.size - a) (h1 : j < (s.extract a s.size).size) : (s.extract a s.size)[j] = s[a + j] := by
  simp [ByteArray.getElem_extract]
theorem tail_stop (p : UInt8 → Bool) (s : ByteArray) (a : Nat) (h : a ≤ s.size) : ∀ f j, s.size - (a + j) = f → a + j ≤ s.size → stop p s (a + j) = a + stop p (s.extract a s.size) j := by
  intro f
  induction f with
  | zero =>
    intro j hf hj
    rw [stop_end p s (a + j) (by omega), stop_end p _ j (by rw [tail_size s a h]; omega)]
  | succ f ih =>
    intro j hf hj
    have h1 : j < (s.extract a s.size).size := by rw [tail_size s a h]; omega
    have h2 : a + j < s.size := by omega
    cases hp : p s[a + j]
    · rw [stop_no p s _ h2 hp, stop_no p _ j h1 (by rw [tail_get s a j h (by omega)]; exact hp)]
    · rw [stop_go p s _ h2 hp, stop_go p _ j h1 (by rw [tail_get s a j h (by omega)]; exact hp)]
      exact ih (j + 1) (by omega) (by omega)
theorem tail_stop0 (p : UInt8 → Bool) (s : ByteArray) (a j : Nat) (h : a + j ≤ s.size) : stop p s (a + j) = a + stop p (s.extract a s.size) j := tail_stop p s a (by omega) _ j rfl h
theorem tail_nxt (s : ByteArray) (a j : Nat) (h : a + j ≤ s.size) : nxt s (a + j) = a + nxt (s.extract a s.size) j := by
  unfold nxt
  rw [tail_size s a (by omega)]
  split <;> split <;> omega
theorem tail_word (s : ByteArray) (a j : Nat) (h : a + j ≤ s.size) :
    wBeg s (a + j) = a + wBeg (s.extract a s.size) j ∧ wEnd s (a + j) = a + wEnd (s.extract a s.size) j ∧ wNext s (a + j) = a + wNext (s.extract a s.size) j := by
  have h0 : j ≤ (s.extract a s.size).size := by rw [tail_size s a (by omega)]; omega
  obtain ⟨b1, b2, b3, b4, b5, b6⟩ := w_bounds _ j h0
  rw [tail_size s a (by omega)] at b2 b4 b6
  have e1 : wBeg s (a + j) = a + wBeg (s.extract a s.size) j := tail_stop0 _ s a j h
  have e2 : wEnd s (a + j) = a + wEnd (s.extract a s.size) j := by
    unfold wEnd; rw [e1]; exact tail_stop0 _ s a _ (by omega)
  refine ⟨e1, e2, ?_⟩
  unfold wNext; rw [e2]; exact tail_nxt s a _ (by omega)
theorem tail_line (s : ByteArray) (a j : Nat) (h : a + j ≤ s.size) : lNext s (a + j) = a + lNext (s.extract a s.size) j := by
  have h0 : j ≤ (s.extract a s.size).size := by rw [tail_size s a (by omega)]; omega
  have h1 := stop_le (isNot 10) _ j h0
  rw [tail_size s a (by omega)] at h1
  unfold lNext; rw [tail_stop0 _ s a j h]; exact tail_nxt s a _ (by omega)
theorem tail_cut (s : ByteArray) (a i j : Nat) (h : a + j ≤ s.size) : s.extract (a + i) (a + j) = (s.extract a s.size).extract i j := by
  rw [ByteArray.extract_extract]
  congr 1
  omega
end Go.Proofs.Ytihepdnnafdkdaa
