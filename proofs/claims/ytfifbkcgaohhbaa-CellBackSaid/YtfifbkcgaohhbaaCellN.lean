import Derived.Test.YtfifbkcgaohhbaaCellQ
namespace Go.Proofs.Ytfifbkcgaohhbaa
open Go.RowKit
set_option linter.unusedVariables false
set_option linter.unusedSimpArgs false
theorem and_ones {b : Int} (h : isI b) : bits .and .i64 (-1) b = b := by
  have e : bits .and .i64 (-1) b = (BitVec.ofInt 64 (-1) &&& BitVec.ofInt 64 b).toInt := wrap_toNat _
  rw [e, show BitVec.ofInt 64 (-1) = BitVec.allOnes 64 by decide, BitVec.allOnes_and, toInt_ofInt h]
theorem and_zero (b : Int) : bits .and .i64 0 b = 0 := by
  have e : bits .and .i64 0 b = (BitVec.ofInt 64 0 &&& BitVec.ofInt 64 b).toInt := wrap_toNat _
  rw [e, show BitVec.ofInt 64 0 = 0#64 by decide, BitVec.zero_and]; rfl
theorem and_sign {a b : Int} (ha : isI a) (hb : isI b) : bits .and .i64 (a / 9223372036854775808) b = if a < 0 then b else 0 := by
  obtain ⟨a0, a1⟩ := ha
  by_cases h : a < 0
  · rw [if_pos h, show a / 9223372036854775808 = -1 by omega, and_ones hb]
  · rw [if_neg h, show a / 9223372036854775808 = 0 by omega, and_zero]
theorem times_hi {a b : Int} (ha : isI a) (hb : isI b) : tHi a b = wrap64 (rTHi a b) := by
  unfold tHi rTHi
  rw [and_sign ha hb, and_sign hb ha]
  generalize hi64 (IntKind.u64.wrap a) (IntKind.u64.wrap b) = h
  simp only [IntKind.wrap_u64]
  unfold wrap64
  by_cases h0 : a < 0 <;> by_cases h1 : b < 0 <;> simp only [h0, h1, if_true, if_false] <;> omega
set_option maxHeartbeats 1000000 in
theorem law_wides (a b : Int) (w : World) (p1 : tHi a b = wrap64 (rTHi a b)) :
    Calls Try.prog 4 #[.int .i64 a, .int .i64 b] w fun e w' => e = .returned (.bool true) ∧ Below w.heap.size w w' := by
  go_enter Try.func4, Try.ntmps4
  go_wp2_with (fail)
  refine (shown_any _).mono ?_
  rintro e w0 ⟨rfl, hb⟩
  have P1 := Lib.hid p1
  clear p1
  go_wp2_with (fail)
  refine (times _ _ _).mono ?_
  rintro e w1 ⟨rfl, hb1⟩
  have hB1 : Below w.heap.size w w1 := hb.trans (hb1.mono hb.size)
  go_wp2_with (fail)
  refine (rtimes_any _ _ _).mono ?_
  rintro e w2 ⟨rfl, hb2⟩
  have hB2 : Below w.heap.size w w2 := hB1.trans (hb2.mono hB1.size)
  go_wp2_with (fail)
  refine (wide_any _ _ _).mono ?_
  rintro e w3 ⟨rfl, hb3⟩
  have hB3 : Below w.heap.size w w3 := hB2.trans (hb3.mono hB2.size)
  rw [← P1.out]
  go_wp2_with (fail)
  refine (utimes _ _ _).mono ?_
  rintro e w4 ⟨rfl, hb4⟩
  have hB4 : Below w.heap.size w w4 := hB3.trans (hb4.mono hB3.size)
  go_wp2_with (fail)
  refine (rutimes_any _ _ _ (isU_wrap _) (isU_wrap _)).mono ?_
  rintro e w5 ⟨rfl, hb5⟩
  have hB5 : Below w.heap.size w w5 := hB4.trans (hb5.mono hB4.size)
  go_wp2_with (fail)
  refine (wide_any _ _ _).mono ?_
  rintro e w6 ⟨rfl, hb6⟩
  have hB6 : Below w.heap.size w w6 := hB5.trans (hb6.mono hB5.size)
  go_wp2

  go_returns
  exact ⟨rfl, hB6⟩
theorem walk_wides (a b : Int) (ha : (Lit.int .i64 a).wf = true) (hb : (Lit.int .i64 b).wf = true) (w : World) :
    Calls Try.prog 4 #[.int .i64 a, .int .i64 b] w fun e w' => e = .returned (.bool true) ∧ Below w.heap.size w w' :=
  law_wides a b w (times_hi (isI_of ha) (isI_of hb))
/-! CellShifts -/
theorem dbl_is (a : Int) (ha : isI a) : ∀ k : Nat, dbl a k = wrap64 (a * 2 ^ k)
  | 0 => by obtain ⟨a0, a1⟩ := ha; unfold dbl wrap64; simp; omega
  | k + 1 => by
    unfold dbl
    rw [dbl_is a ha k, Int.pow_succ, ← Int.mul_assoc]
    generalize a * 2 ^ k = x
    unfold wrap64
    omega
theorem hlf_eq (u : Int) : ∀ k : Nat, hlf u k = u / 2 ^ k
  | 0 => by simp [hlf]
  | k + 1 => by rw [hlf, hlf_eq u k, Int.pow_succ, Int.ediv_ediv_of_nonneg (Int.le_of_lt (Int.pow_pos (by decide)))]
theorem shl_far (a n : Int) (h : 63 < n) : shl a n = 0 := by
  unfold shl
  rw [if_neg (by omega), show min n.toNat 64 = 64 by omega]
  unfold wrap64
  omega
theorem shr_far (a n : Int) (h : 63 < n) : shr a n = 0 := by
  unfold shr
  obtain ⟨u0, u1⟩ := isU_wrap a
  rw [if_neg (by omega), show min n.toNat 64 = 64 by omega]
  generalize IntKind.u64.wrap a = u at *
  unfold wrap64
  omega
theorem rleft_any (a n : Int) (w : World) (ha : isI a) :
    Calls Try.prog 22 #[.int .i64 a, .int .i64 n] w fun e w' => e = .returned (.int .i64 (shl a n)) ∧ w' = w := by
  by_cases h0 : n < 0
  · rw [show shl a n = 0 from if_pos h0]; exact rleft_no a n w (.inl h0)
  · by_cases h1 : 63 < n
    · rw [shl_far a n h1]; exact rleft_no a n w (.inr h1)
    · obtain ⟨k, rfl⟩ := Int.eq_ofNat_of_zero_le (show 0 ≤ n by omega)
      have e : shl a k = dbl a k := by
        rw [dbl_is a ha k]; unfold shl; rw [if_neg h0, Int.toNat_natCast, show min k 64 = k by omega]
      rw [e]; exact rleft_yes a k w (by omega)
theorem rright_any (a n : Int) (w : World) :
    Calls Try.prog 24 #[.int .i64 a, .int .i64 n] w fun e w' => e = .returned (.int .i64 (shr a n)) ∧ w' = w := by
  by_cases h0 : n < 0
  · rw [show shr a n = 0 from if_pos h0]; exact rright_no a n w (.inl h0)
  · by_cases h1 : 63 < n
    · rw [shr_far a n h1]; exact rright_no a n w (.inr h1)
    · obtain ⟨k, rfl⟩ := Int.eq_ofNat_of_zero_le (show 0 ≤ n by omega)
      have e : shr a k = wrap64 (hlf (IntKind.u64.wrap a) k) := by
        rw [hlf_eq]; unfold shr; rw [if_neg h0, Int.toNat_natCast, show min k 64 = k by omega]
      rw [e]; exact rright_yes a k w (by omega)
set_option maxHeartbeats 1000000 in
theorem walk_shifts (a b n : Int) (ha : (Lit.int .i64 a).wf = true) (hb : (Lit.int .i64 b).wf = true) (hn : (Lit.int .i64 n).wf = true) (w : World) :
    Calls Try.prog 5 #[.int .i64 a, .int .i64 b, .int .i64 n] w fun e w' => e = .returned (.bool true) ∧ Below w.heap.size w w' := by
  have HA := isI_of ha
  go_enter Try.func5, Try.ntmps5
  go_wp2_with (fail)
  refine (shown_any _).mono ?_
  rintro e w0 ⟨rfl, hb⟩
  go_wp2_with (first
    | (go_at_call 21; refine (left_any _ _ _).mono ?_; rintro e w' ⟨rfl, rfl⟩)
    | (go_at_call 22; refine (rleft_any _ _ _ HA).mono ?_; rintro e w' ⟨rfl, rfl⟩)
    | (go_at_call 23; refine (right_any _ _ _).mono ?_; rintro e w' ⟨rfl, rfl⟩)
    | (go_at_call 24; refine (rright_any _ _ _).mono ?_; rintro e w' ⟨rfl, rfl⟩)
    | (go_at_call 25; refine (below_any _ _ _).mono ?_; rintro e w' ⟨rfl, rfl⟩)
    | (go_at_call 26; refine (rbelow_any _ _ _).mono ?_; rintro e w' ⟨rfl, rfl⟩)
    | (go_at_call 27; refine (flag_any _ _).mono ?_; rintro e w' ⟨rfl, rfl⟩)
    | (go_at_call 28; refine (rflag_any _ _).mono ?_; rintro e w' ⟨rfl, rfl⟩))

  go_returns
  exact ⟨rfl, hb⟩
end Go.Proofs.Ytfifbkcgaohhbaa
