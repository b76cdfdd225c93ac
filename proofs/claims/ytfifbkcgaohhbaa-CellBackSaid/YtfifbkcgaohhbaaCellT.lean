import Derived.Test.YtfifbkcgaohhbaaCellO
namespace Go.Proofs.Ytfifbkcgaohhbaa
open Go.RowKit
set_option linter.unusedVariables false
set_option linter.unusedSimpArgs false
/-! CellMoves -/
theorem wrap64_add (x y : Int) : wrap64 (x + y * 18446744073709551616) = wrap64 x := by unfold wrap64; omega
theorem wrap64_split (x : Int) : ∃ q, wrap64 x = x + q * 18446744073709551616 := ⟨-((x + 9223372036854775808) / 18446744073709551616), by unfold wrap64; omega⟩
theorem wrap64_mul_r (a b : Int) : wrap64 (a * wrap64 b) = wrap64 (a * b) := by
  obtain ⟨q, hq⟩ := wrap64_split b
  rw [hq, Int.mul_add, ← Int.mul_assoc, wrap64_add]
theorem wrap64_mul_l (a b : Int) : wrap64 (wrap64 a * b) = wrap64 (a * b) := by
  rw [Int.mul_comm, wrap64_mul_r, Int.mul_comm]
theorem wrap64_add_l (a b : Int) : wrap64 (wrap64 a + b) = wrap64 (a + b) := by unfold wrap64; omega
theorem wrap64_add_r (a b : Int) : wrap64 (a + wrap64 b) = wrap64 (a + b) := by unfold wrap64; omega
theorem wrap64_U {a : Int} (h : isI a) : wrap64 (IntKind.u64.wrap a) = a := by
  obtain ⟨h0, h1⟩ := h
  rw [IntKind.wrap_u64]; unfold wrap64; omega
theorem U_of {u : Int} (h : isU u) : IntKind.u64.wrap (wrap64 u) = u := by
  obtain ⟨h0, h1⟩ := h
  rw [IntKind.wrap_u64]; unfold wrap64; omega
theorem shl_nat (a : Int) (k : Nat) (h : k ≤ 64) : shl a k = wrap64 (a * 2 ^ k) := by
  unfold shl; rw [if_neg (by omega), Int.toNat_natCast, show min k 64 = k by omega]
theorem shr_nat (a : Int) (k : Nat) (h : k ≤ 64) : shr a k = wrap64 (IntKind.u64.wrap a / 2 ^ k) := by
  unfold shr; rw [if_neg (by omega), Int.toNat_natCast, show min k 64 = k by omega]
theorem shl_big (a : Int) (k : Nat) : shl a k = wrap64 (a * 2 ^ k) := by
  by_cases h : k ≤ 64
  · exact shl_nat a k h
  · unfold shl
    rw [if_neg (by omega), Int.toNat_natCast, show min k 64 = 64 by omega]
    obtain ⟨j, rfl⟩ : ∃ j, k = j + 64 := ⟨k - 64, by omega⟩
    rw [Int.pow_add, ← Int.mul_assoc, show (2 : Int) ^ 64 = 18446744073709551616 by decide +kernel]
    have e1 := wrap64_add 0 a
    have e2 := wrap64_add 0 (a * 2 ^ j)
    rw [Int.zero_add] at e1 e2
    rw [e1, e2]
theorem two_pos (k : Nat) : (0 : Int) < 2 ^ k := Int.pow_pos (by decide)
theorem shr_big (a : Int) (k : Nat) : shr a k = wrap64 (IntKind.u64.wrap a / 2 ^ k) := by
  by_cases h : k ≤ 64
  · exact shr_nat a k h
  · unfold shr
    rw [if_neg (by omega), Int.toNat_natCast, show min k 64 = 64 by omega]
    obtain ⟨j, rfl⟩ : ∃ j, k = 64 + j := ⟨k - 64, by omega⟩
    obtain ⟨u0, u1⟩ := isU_wrap a
    rw [Int.pow_add, ← Int.ediv_ediv_of_nonneg (Int.le_of_lt (two_pos 64)), show (2 : Int) ^ 64 = 18446744073709551616 by decide +kernel, Int.ediv_eq_zero_of_lt u0 u1, Int.zero_ediv]
theorem pow_isU {k : Nat} (h : k ≤ 63) : isU (2 ^ k) := by
  refine ⟨Int.le_of_lt (two_pos k), ?_⟩
  have := Nat.pow_le_pow_right (show 0 < 2 by decide) h
  have e : ((2 ^ k : Nat) : Int) ≤ ((2 ^ 63 : Nat) : Int) := by exact_mod_cast this
  rw [Int.natCast_pow] at e
  have e2 : ((2 ^ 63 : Nat) : Int) = 9223372036854775808 := by decide +kernel
  rw [e2] at e
  exact Int.lt_of_le_of_lt e (by decide)
structure Mv (a : Int) (k j : Nat) : Prop where
  f1 : shl a k = wrap64 (a * shl 1 k)
  f2 : uf 0 (shl 1 k) = 0
  f3 : uq a 0 (shl 1 k) = shr a k
  f4 : wrap64 (shl (uq a 0 (shl 1 k)) k + ur a 0 (shl 1 k)) = a
  f5 : shl (shl a k) j = shl a ((k : Int) + j)
  f6 : shr (shr a k) j = shr a ((k : Int) + j)
theorem mv {a : Int} (ha : isI a) {k j : Nat} (hk : k ≤ 63) : Mv a k j := by
  obtain ⟨u0, u1⟩ := isU_wrap a
  have p : shl 1 k = wrap64 (2 ^ k) := by rw [shl_nat 1 k (by omega), Int.one_mul]
  have up : IntKind.u64.wrap (shl 1 k) = 2 ^ k := by rw [p, U_of (pow_isU hk)]
  have uz : IntKind.u64.wrap 0 = 0 := by decide
  have lt : IntKind.u64.wrap 0 < IntKind.u64.wrap (shl 1 k) := by rw [up, uz]; exact two_pos k
  have q : uq a 0 (shl 1 k) = wrap64 (IntKind.u64.wrap a / 2 ^ k) := by
    unfold uq quoW; rw [if_pos lt, up, uz, Int.zero_mul, Int.zero_add]
  have r : ur a 0 (shl 1 k) = wrap64 (IntKind.u64.wrap a % 2 ^ k) := by
    unfold ur remW; rw [if_pos lt, up, uz, Int.zero_mul, Int.zero_add]
  have d0 : isU (IntKind.u64.wrap a / 2 ^ k) := ⟨Int.ediv_nonneg u0 (Int.le_of_lt (two_pos k)), Int.lt_of_le_of_lt (Int.ediv_le_self _ u0) u1⟩
  refine ⟨?_, ?_, ?_, ?_, ?_, ?_⟩
  · rw [p, wrap64_mul_r, shl_nat a k (by omega)]
  · unfold uf; rw [if_pos lt]
  · rw [q, shr_nat a k (by omega)]
  · rw [q, r, shl_nat _ k (by omega), wrap64_mul_l, wrap64_add_l, wrap64_add_r, Int.mul_comm, Int.mul_ediv_add_emod, wrap64_U ha]
  · rw [show ((k : Int) + j) = ((k + j : Nat) : Int) by omega, shl_big, shl_big, shl_big, wrap64_mul_l, Int.pow_add, Int.mul_assoc]
  · rw [show ((k : Int) + j) = ((k + j : Nat) : Int) by omega, shr_big, shr_big, shr_big, U_of d0, Int.pow_add, Int.ediv_ediv_of_nonneg (Int.le_of_lt (two_pos k))]
theorem U_inj {a b : Int} (ha : isI a) (hb : isI b) (h : IntKind.u64.wrap a = IntKind.u64.wrap b) : a = b := by
  rw [← wrap64_U ha, ← wrap64_U hb, h]
/-! the walks of CellMoves -/
set_option maxHeartbeats 4000000 in
theorem walk_moves_nn (a b c n m : Int) (k j : Nat) (w : World) (HA : isI a) (HB : isI b) (HC : isI c) (hn : isI n) (hm : isI m) (s0 : n < 0) (s1 : m < 0) (e0 : -(n + 1).tmod 64 = k) (e1 : -(m + 1).tmod 64 = j) (hk : k ≤ 63) (hj : j ≤ 63) :
    Calls Try.prog 7 #[.int .i64 a, .int .i64 b, .int .i64 c, .int .i64 n, .int .i64 m] w fun e w' => e = .returned (.bool true) ∧ Below w.heap.size w w' := by
  have mv0 := mv (j := j) HA hk
  have F1 := mv0.f1
  have g1 : (shl a k == wrap64 (a * shl 1 k)) = true := beq_iff_eq.2 F1
  have g2 : (uf 0 (shl 1 k) == 0) = true := beq_iff_eq.2 mv0.f2
  have g3 : (uq a 0 (shl 1 k) == shr a k) = true := beq_iff_eq.2 mv0.f3
  have g4 : (wrap64 (shl (uq a 0 (shl 1 k)) k + ur a 0 (shl 1 k)) == a) = true := beq_iff_eq.2 mv0.f4
  have g5 : (shl (shl a k) j == shl a ((k : Int) + j)) = true := beq_iff_eq.2 mv0.f5
  have g6 : (shr (shr a k) j == shr a ((k : Int) + j)) = true := beq_iff_eq.2 mv0.f6
  have HX : Hid (IntKind.u64.wrap a = IntKind.u64.wrap b → a = b) := Lib.hid (U_inj HA HB)
  obtain ⟨n0, n1⟩ := hn
  obtain ⟨m0, m1⟩ := hm
  clear F1 mv0 HC
  go_enter Try.func7, Try.ntmps7
  go_wp2_with (fail)
  refine (shown_any _).mono ?_
  rintro e w0 ⟨rfl, hb⟩
  go_wp2_with (first
    | (go_at_call 21; refine (left_any _ _ _).mono ?_; rintro e w' ⟨rfl, rfl⟩))
  refine (udivide_any _ _ _ _).mono ?_
  rintro e w1 ⟨rfl, hb1⟩
  have hB : Below w.heap.size w w1 := hb.trans (hb1.mono hb.size)
  rcases Int.lt_trichotomy (IntKind.u64.wrap a) (IntKind.u64.wrap b) with o | o | o
  · have o1 : (a == b) = false := beq_eq_false_iff_ne.2 (fun h => by rw [h] at o; exact absurd o (Int.lt_irrefl _))
    have o2 : decide (IntKind.u64.wrap b < IntKind.u64.wrap a) = false := decide_eq_false (by omega)
    go_wp2_with (first
      | (go_at_call 21; refine (left_any _ _ _).mono ?_; rintro e w' ⟨rfl, rfl⟩)
      | (go_at_call 23; refine (right_any _ _ _).mono ?_; rintro e w' ⟨rfl, rfl⟩)
      | (go_at_call 25; refine (below_any _ _ _).mono ?_; rintro e w' ⟨rfl, rfl⟩))
    all_goals go_returns
    all_goals exact ⟨rfl, hB⟩
  · obtain rfl := HX.out o
    clear o HX
    go_wp2_with (first
      | (go_at_call 21; refine (left_any _ _ _).mono ?_; rintro e w' ⟨rfl, rfl⟩)
      | (go_at_call 23; refine (right_any _ _ _).mono ?_; rintro e w' ⟨rfl, rfl⟩)
      | (go_at_call 25; refine (below_any _ _ _).mono ?_; rintro e w' ⟨rfl, rfl⟩))
    all_goals go_returns
    all_goals exact ⟨rfl, hB⟩
  · have o1 : (a == b) = false := beq_eq_false_iff_ne.2 (fun h => by rw [h] at o; exact absurd o (Int.lt_irrefl _))
    have o2 : decide (IntKind.u64.wrap a < IntKind.u64.wrap b) = false := decide_eq_false (by omega)
    go_wp2_with (first
      | (go_at_call 21; refine (left_any _ _ _).mono ?_; rintro e w' ⟨rfl, rfl⟩)
      | (go_at_call 23; refine (right_any _ _ _).mono ?_; rintro e w' ⟨rfl, rfl⟩)
      | (go_at_call 25; refine (below_any _ _ _).mono ?_; rintro e w' ⟨rfl, rfl⟩))
    all_goals go_returns
    all_goals exact ⟨rfl, hB⟩
set_option maxHeartbeats 4000000 in
theorem walk_moves_np (a b c n m : Int) (k j : Nat) (w : World) (HA : isI a) (HB : isI b) (HC : isI c) (hn : isI n) (hm : isI m) (s0 : n < 0) (s1 : ¬ m < 0) (e0 : -(n + 1).tmod 64 = k) (e1 : m % 64 = j) (hk : k ≤ 63) (hj : j ≤ 63) :
    Calls Try.prog 7 #[.int .i64 a, .int .i64 b, .int .i64 c, .int .i64 n, .int .i64 m] w fun e w' => e = .returned (.bool true) ∧ Below w.heap.size w w' := by
  have mv0 := mv (j := j) HA hk
  have F1 := mv0.f1
  have g1 : (shl a k == wrap64 (a * shl 1 k)) = true := beq_iff_eq.2 F1
  have g2 : (uf 0 (shl 1 k) == 0) = true := beq_iff_eq.2 mv0.f2
  have g3 : (uq a 0 (shl 1 k) == shr a k) = true := beq_iff_eq.2 mv0.f3
  have g4 : (wrap64 (shl (uq a 0 (shl 1 k)) k + ur a 0 (shl 1 k)) == a) = true := beq_iff_eq.2 mv0.f4
  have g5 : (shl (shl a k) j == shl a ((k : Int) + j)) = true := beq_iff_eq.2 mv0.f5
  have g6 : (shr (shr a k) j == shr a ((k : Int) + j)) = true := beq_iff_eq.2 mv0.f6
  have HX : Hid (IntKind.u64.wrap a = IntKind.u64.wrap b → a = b) := Lib.hid (U_inj HA HB)
  obtain ⟨n0, n1⟩ := hn
  obtain ⟨m0, m1⟩ := hm
  clear F1 mv0 HC
  go_enter Try.func7, Try.ntmps7
  go_wp2_with (fail)
  refine (shown_any _).mono ?_
  rintro e w0 ⟨rfl, hb⟩
  go_wp2_with (first
    | (go_at_call 21; refine (left_any _ _ _).mono ?_; rintro e w' ⟨rfl, rfl⟩))
  refine (udivide_any _ _ _ _).mono ?_
  rintro e w1 ⟨rfl, hb1⟩
  have hB : Below w.heap.size w w1 := hb.trans (hb1.mono hb.size)
  rcases Int.lt_trichotomy (IntKind.u64.wrap a) (IntKind.u64.wrap b) with o | o | o
  · have o1 : (a == b) = false := beq_eq_false_iff_ne.2 (fun h => by rw [h] at o; exact absurd o (Int.lt_irrefl _))
    have o2 : decide (IntKind.u64.wrap b < IntKind.u64.wrap a) = false := decide_eq_false (by omega)
    go_wp2_with (first
      | (go_at_call 21; refine (left_any _ _ _).mono ?_; rintro e w' ⟨rfl, rfl⟩)
      | (go_at_call 23; refine (right_any _ _ _).mono ?_; rintro e w' ⟨rfl, rfl⟩)
      | (go_at_call 25; refine (below_any _ _ _).mono ?_; rintro e w' ⟨rfl, rfl⟩))
    all_goals go_returns
    all_goals exact ⟨rfl, hB⟩
  · obtain rfl := HX.out o
    clear o HX
    go_wp2_with (first
      | (go_at_call 21; refine (left_any _ _ _).mono ?_; rintro e w' ⟨rfl, rfl⟩)
      | (go_at_call 23; refine (right_any _ _ _).mono ?_; rintro e w' ⟨rfl, rfl⟩)
      | (go_at_call 25; refine (below_any _ _ _).mono ?_; rintro e w' ⟨rfl, rfl⟩))
    all_goals go_returns
    all_goals exact ⟨rfl, hB⟩
  · have o1 : (a == b) = false := beq_eq_false_iff_ne.2 (fun h => by rw [h] at o; exact absurd o (Int.lt_irrefl _))
    have o2 : decide (IntKind.u64.wrap a < IntKind.u64.wrap b) = false := decide_eq_false (by omega)
    go_wp2_with (first
      | (go_at_call 21; refine (left_any _ _ _).mono ?_; rintro e w' ⟨rfl, rfl⟩)
      | (go_at_call 23; refine (right_any _ _ _).mono ?_; rintro e w' ⟨rfl, rfl⟩)
      | (go_at_call 25; refine (below_any _ _ _).mono ?_; rintro e w' ⟨rfl, rfl⟩))
    all_goals go_returns
    all_goals exact ⟨rfl, hB⟩
set_option maxHeartbeats 4000000 in
theorem walk_moves_pn (a b c n m : Int) (k j : Nat) (w : World) (HA : isI a) (HB : isI b) (HC : isI c) (hn : isI n) (hm : isI m) (s0 : ¬ n < 0) (s1 : m < 0) (e0 : n % 64 = k) (e1 : -(m + 1).tmod 64 = j) (hk : k ≤ 63) (hj : j ≤ 63) :
    Calls Try.prog 7 #[.int .i64 a, .int .i64 b, .int .i64 c, .int .i64 n, .int .i64 m] w fun e w' => e = .returned (.bool true) ∧ Below w.heap.size w w' := by
  have mv0 := mv (j := j) HA hk
  have F1 := mv0.f1
  have g1 : (shl a k == wrap64 (a * shl 1 k)) = true := beq_iff_eq.2 F1
  have g2 : (uf 0 (shl 1 k) == 0) = true := beq_iff_eq.2 mv0.f2
  have g3 : (uq a 0 (shl 1 k) == shr a k) = true := beq_iff_eq.2 mv0.f3
  have g4 : (wrap64 (shl (uq a 0 (shl 1 k)) k + ur a 0 (shl 1 k)) == a) = true := beq_iff_eq.2 mv0.f4
  have g5 : (shl (shl a k) j == shl a ((k : Int) + j)) = true := beq_iff_eq.2 mv0.f5
  have g6 : (shr (shr a k) j == shr a ((k : Int) + j)) = true := beq_iff_eq.2 mv0.f6
  have HX : Hid (IntKind.u64.wrap a = IntKind.u64.wrap b → a = b) := Lib.hid (U_inj HA HB)
  obtain ⟨n0, n1⟩ := hn
  obtain ⟨m0, m1⟩ := hm
  clear F1 mv0 HC
  go_enter Try.func7, Try.ntmps7
  go_wp2_with (fail)
  refine (shown_any _).mono ?_
  rintro e w0 ⟨rfl, hb⟩
  go_wp2_with (first
    | (go_at_call 21; refine (left_any _ _ _).mono ?_; rintro e w' ⟨rfl, rfl⟩))
  refine (udivide_any _ _ _ _).mono ?_
  rintro e w1 ⟨rfl, hb1⟩
  have hB : Below w.heap.size w w1 := hb.trans (hb1.mono hb.size)
  rcases Int.lt_trichotomy (IntKind.u64.wrap a) (IntKind.u64.wrap b) with o | o | o
  · have o1 : (a == b) = false := beq_eq_false_iff_ne.2 (fun h => by rw [h] at o; exact absurd o (Int.lt_irrefl _))
    have o2 : decide (IntKind.u64.wrap b < IntKind.u64.wrap a) = false := decide_eq_false (by omega)
    go_wp2_with (first
      | (go_at_call 21; refine (left_any _ _ _).mono ?_; rintro e w' ⟨rfl, rfl⟩)
      | (go_at_call 23; refine (right_any _ _ _).mono ?_; rintro e w' ⟨rfl, rfl⟩)
      | (go_at_call 25; refine (below_any _ _ _).mono ?_; rintro e w' ⟨rfl, rfl⟩))
    all_goals go_returns
    all_goals exact ⟨rfl, hB⟩
  · obtain rfl := HX.out o
    clear o HX
    go_wp2_with (first
      | (go_at_call 21; refine (left_any _ _ _).mono ?_; rintro e w' ⟨rfl, rfl⟩)
      | (go_at_call 23; refine (right_any _ _ _).mono ?_; rintro e w' ⟨rfl, rfl⟩)
      | (go_at_call 25; refine (below_any _ _ _).mono ?_; rintro e w' ⟨rfl, rfl⟩))
    all_goals go_returns
    all_goals exact ⟨rfl, hB⟩
  · have o1 : (a == b) = false := beq_eq_false_iff_ne.2 (fun h => by rw [h] at o; exact absurd o (Int.lt_irrefl _))
    have o2 : decide (IntKind.u64.wrap a < IntKind.u64.wrap b) = false := decide_eq_false (by omega)
    go_wp2_with (first
      | (go_at_call 21; refine (left_any _ _ _).mono ?_; rintro e w' ⟨rfl, rfl⟩)
      | (go_at_call 23; refine (right_any _ _ _).mono ?_; rintro e w' ⟨rfl, rfl⟩)
      | (go_at_call 25; refine (below_any _ _ _).mono ?_; rintro e w' ⟨rfl, rfl⟩))
    all_goals go_returns
    all_goals exact ⟨rfl, hB⟩
set_option maxHeartbeats 4000000 in
theorem walk_moves_pp (a b c n m : Int) (k j : Nat) (w : World) (HA : isI a) (HB : isI b) (HC : isI c) (hn : isI n) (hm : isI m) (s0 : ¬ n < 0) (s1 : ¬ m < 0) (e0 : n % 64 = k) (e1 : m % 64 = j) (hk : k ≤ 63) (hj : j ≤ 63) :
    Calls Try.prog 7 #[.int .i64 a, .int .i64 b, .int .i64 c, .int .i64 n, .int .i64 m] w fun e w' => e = .returned (.bool true) ∧ Below w.heap.size w w' := by
  have mv0 := mv (j := j) HA hk
  have F1 := mv0.f1
  have g1 : (shl a k == wrap64 (a * shl 1 k)) = true := beq_iff_eq.2 F1
  have g2 : (uf 0 (shl 1 k) == 0) = true := beq_iff_eq.2 mv0.f2
  have g3 : (uq a 0 (shl 1 k) == shr a k) = true := beq_iff_eq.2 mv0.f3
  have g4 : (wrap64 (shl (uq a 0 (shl 1 k)) k + ur a 0 (shl 1 k)) == a) = true := beq_iff_eq.2 mv0.f4
  have g5 : (shl (shl a k) j == shl a ((k : Int) + j)) = true := beq_iff_eq.2 mv0.f5
  have g6 : (shr (shr a k) j == shr a ((k : Int) + j)) = true := beq_iff_eq.2 mv0.f6
  have HX : Hid (IntKind.u64.wrap a = IntKind.u64.wrap b → a = b) := Lib.hid (U_inj HA HB)
  obtain ⟨n0, n1⟩ := hn
  obtain ⟨m0, m1⟩ := hm
  clear F1 mv0 HC
  go_enter Try.func7, Try.ntmps7
  go_wp2_with (fail)
  refine (shown_any _).mono ?_
  rintro e w0 ⟨rfl, hb⟩
  go_wp2_with (first
    | (go_at_call 21; refine (left_any _ _ _).mono ?_; rintro e w' ⟨rfl, rfl⟩))
  refine (udivide_any _ _ _ _).mono ?_
  rintro e w1 ⟨rfl, hb1⟩
  have hB : Below w.heap.size w w1 := hb.trans (hb1.mono hb.size)
  rcases Int.lt_trichotomy (IntKind.u64.wrap a) (IntKind.u64.wrap b) with o | o | o
  · have o1 : (a == b) = false := beq_eq_false_iff_ne.2 (fun h => by rw [h] at o; exact absurd o (Int.lt_irrefl _))
    have o2 : decide (IntKind.u64.wrap b < IntKind.u64.wrap a) = false := decide_eq_false (by omega)
    go_wp2_with (first
      | (go_at_call 21; refine (left_any _ _ _).mono ?_; rintro e w' ⟨rfl, rfl⟩)
      | (go_at_call 23; refine (right_any _ _ _).mono ?_; rintro e w' ⟨rfl, rfl⟩)
      | (go_at_call 25; refine (below_any _ _ _).mono ?_; rintro e w' ⟨rfl, rfl⟩))
    all_goals go_returns
    all_goals exact ⟨rfl, hB⟩
  · obtain rfl := HX.out o
    clear o HX
    go_wp2_with (first
      | (go_at_call 21; refine (left_any _ _ _).mono ?_; rintro e w' ⟨rfl, rfl⟩)
      | (go_at_call 23; refine (right_any _ _ _).mono ?_; rintro e w' ⟨rfl, rfl⟩)
      | (go_at_call 25; refine (below_any _ _ _).mono ?_; rintro e w' ⟨rfl, rfl⟩))
    all_goals go_returns
    all_goals exact ⟨rfl, hB⟩
  · have o1 : (a == b) = false := beq_eq_false_iff_ne.2 (fun h => by rw [h] at o; exact absurd o (Int.lt_irrefl _))
    have o2 : decide (IntKind.u64.wrap a < IntKind.u64.wrap b) = false := decide_eq_false (by omega)
    go_wp2_with (first
      | (go_at_call 21; refine (left_any _ _ _).mono ?_; rintro e w' ⟨rfl, rfl⟩)
      | (go_at_call 23; refine (right_any _ _ _).mono ?_; rintro e w' ⟨rfl, rfl⟩)
      | (go_at_call 25; refine (below_any _ _ _).mono ?_; rintro e w' ⟨rfl, rfl⟩))
    all_goals go_returns
    all_goals exact ⟨rfl, hB⟩
theorem walk_moves (a b c n m : Int) (ha : (Lit.int .i64 a).wf = true) (hb : (Lit.int .i64 b).wf = true) (hc : (Lit.int .i64 c).wf = true) (hn : (Lit.int .i64 n).wf = true) (hm : (Lit.int .i64 m).wf = true) (w : World) :
    Calls Try.prog 7 #[.int .i64 a, .int .i64 b, .int .i64 c, .int .i64 n, .int .i64 m] w fun e w' => e = .returned (.bool true) ∧ Below w.heap.size w w' := by
  have HN := isI_of hn
  have HM := isI_of hm
  have en : n < 0 → -(n + 1).tmod 64 = (((-(n + 1)) % 64).toNat : Int) := fun h => by
    rw [← Int.neg_tmod, Int.tmod_eq_emod_of_nonneg (by omega)]; omega
  have em : m < 0 → -(m + 1).tmod 64 = (((-(m + 1)) % 64).toNat : Int) := fun h => by
    rw [← Int.neg_tmod, Int.tmod_eq_emod_of_nonneg (by omega)]; omega
  by_cases s0 : n < 0 <;> by_cases s1 : m < 0
  · exact walk_moves_nn a b c n m ((-(n + 1)) % 64).toNat ((-(m + 1)) % 64).toNat w (isI_of ha) (isI_of hb) (isI_of hc) HN HM s0 s1 (en s0) (em s1) (by omega) (by omega)
  · exact walk_moves_np a b c n m ((-(n + 1)) % 64).toNat (m % 64).toNat w (isI_of ha) (isI_of hb) (isI_of hc) HN HM s0 s1 (en s0) (by omega) (by omega) (by omega)
  · exact walk_moves_pn a b c n m (n % 64).toNat ((-(m + 1)) % 64).toNat w (isI_of ha) (isI_of hb) (isI_of hc) HN HM s0 s1 (by omega) (em s1) (by omega) (by omega)
  · exact walk_moves_pp a b c n m (n % 64).toNat (m % 64).toNat w (isI_of ha) (isI_of hb) (isI_of hc) HN HM s0 s1 (by omega) (by omega) (by omega) (by omega)
end Go.Proofs.Ytfifbkcgaohhbaa
