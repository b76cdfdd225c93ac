import Derived.Test.YtfifbkcgaohhbaaCellD
namespace Go.Proofs.Ytfifbkcgaohhbaa
open Go.RowKit
set_option linter.unusedVariables false
set_option linter.unusedSimpArgs false
/-! the references -/
def rQ (a b : Int) : Int := if b = 0 then 0 else if b = -1 then wrap64 (-a) else wrap64 (a.tdiv b)
def rR (a b : Int) : Int := if b = 0 then 0 else if b = -1 then 0 else a.tmod b
def rOk (b : Int) : Bool := !(b == 0)
theorem rsymmetric_any (a b : Int) (w : World) :
    Calls Try.prog 14 #[.int .i64 a, .int .i64 b] w fun e w' => e = .returned (.tuple #[.int .i64 (rQ a b), .int .i64 (rR a b), .bool (rOk b)]) ∧ ∃ n, w' = w.drewN n := by
  unfold rQ rR rOk
  by_cases h : b = 0
  · subst h
    go_enter Try.func14, Try.ntmps14
    go_wp2
    go_returns
    exact ⟨rfl, 0, rfl⟩
  · have h0 : (b == 0) = false := beq_eq_false_iff_ne.2 h
    rw [if_neg h, if_neg h, h0]
    by_cases h1 : b = -1
    · subst h1
      go_enter Try.func14, Try.ntmps14
      go_wp2
      go_returns
      exact ⟨rfl, 0, rfl⟩
    · have h2 : (b == -1) = false := beq_eq_false_iff_ne.2 h1
      rw [if_neg h1, if_neg h1]
      go_enter Try.func14, Try.ntmps14
      go_wp2
      go_quiet (fail)
      go_wp2
      go_returns
      exact ⟨rfl, _, rfl⟩
/-- 'r != 0 && (r < 0) != (b < 0)' -/
def apart (r b : Int) : Bool := (r != 0) && !(decide (r < 0) == decide (b < 0))
def rfQ (a b : Int) : Int := if rOk b = true ∧ apart (rR a b) b = true then wrap64 (rQ a b - 1) else rQ a b
def rfR (a b : Int) : Int := if rOk b = true ∧ apart (rR a b) b = true then wrap64 (rR a b + b) else rR a b
set_option maxHeartbeats 400000 in
theorem rfloored_any (a b : Int) (w : World) :
    Calls Try.prog 13 #[.int .i64 a, .int .i64 b] w fun e w' => e = .returned (.tuple #[.int .i64 (rfQ a b), .int .i64 (rfR a b), .bool (rOk b)]) ∧ ∃ n, w' = w.drewN n := by
  by_cases c1 : rOk b = true
  · by_cases c2 : rR a b = 0
    · have k2 : (rR a b != 0) = false := by simp [c2]
      have C2 := Lib.hid c2
      clear c2
      have C1 := Lib.hid c1
      go_enter Try.func13, Try.ntmps13
      go_wp2_with (go_at_call 14; refine (rsymmetric_any _ _ _).mono ?_; rintro e w' ⟨rfl, m, rfl⟩)
      go_returns
      exact ⟨by simp [rfQ, rfR, apart, C1.out, C2.out], _, rfl⟩
    · have k2 : (rR a b != 0) = true := by simp [c2]
      have C1 := Lib.hid c1
      cases c3 : !(decide (rR a b < 0) == decide (b < 0))
      · go_enter Try.func13, Try.ntmps13
        go_wp2_with (go_at_call 14; refine (rsymmetric_any _ _ _).mono ?_; rintro e w' ⟨rfl, m, rfl⟩)
        go_returns
        have a3 : apart (rR a b) b = false := by rw [apart, k2, c3]; rfl
        exact ⟨by simp [rfQ, rfR, a3, C1.out], _, rfl⟩
      · go_enter Try.func13, Try.ntmps13
        go_wp2_with (go_at_call 14; refine (rsymmetric_any _ _ _).mono ?_; rintro e w' ⟨rfl, m, rfl⟩)
        go_returns
        have a3 : apart (rR a b) b = true := by rw [apart, k2, c3]; rfl
        exact ⟨by simp [rfQ, rfR, a3, C1.out], _, rfl⟩
  · have c1' : rOk b = false := by simpa using c1
    have C1 := Lib.hid c1'
    clear c1
    go_enter Try.func13, Try.ntmps13
    go_wp2_with (go_at_call 14; refine (rsymmetric_any _ _ _).mono ?_; rintro e w' ⟨rfl, m, rfl⟩)
    go_returns
    exact ⟨by simp [rfQ, rfR, C1.out], _, rfl⟩
theorem agg2 {k : IntKind} {x x' y y' : Int} (h : x = x') (g : y = y') : Ending.returned (.agg #[.int k x, .int k y]) = .returned (.agg #[.int k x', .int k y']) := by rw [h, g]
theorem prodB {x y : Int} (h0 : 0 ≤ x) (h1 : x ≤ 4294967295) (h2 : 0 ≤ y) (h3 : y ≤ 4294967295) : 0 ≤ x * y ∧ x * y ≤ 18446744065119617025 :=
  ⟨Int.mul_nonneg h0 h2, Int.le_trans (Int.mul_le_mul h1 h3 h2 (by decide)) (by decide)⟩
theorem halves {a b p q r t : Int} (a0 : 0 ≤ a) (b0 : 0 ≤ b) (hp : a % 4294967296 * (b % 4294967296) = p) (hq : a / 4294967296 * (b % 4294967296) = q) (hr : a % 4294967296 * (b / 4294967296) = r) (ht : a / 4294967296 * (b / 4294967296) = t) :
    a * b = (t + q / 4294967296 + r / 4294967296 + (p / 4294967296 + q % 4294967296 + r % 4294967296) / 4294967296) * 18446744073709551616 + (p % 4294967296 + (p / 4294967296 + q % 4294967296 + r % 4294967296) % 4294967296 * 4294967296) := by
  have ea := Int.mul_ediv_add_emod a 4294967296
  have eb := Int.mul_ediv_add_emod b 4294967296
  have e : a * b = t * 18446744073709551616 + (q + r) * 4294967296 + p := by
    conv => lhs; rw [← ea, ← eb]
    rw [← hp, ← hq, ← hr, ← ht]
    generalize a / 4294967296 = x; generalize a % 4294967296 = y; generalize b / 4294967296 = z; generalize b % 4294967296 = v
    have e1 : 4294967296 * x * (4294967296 * z) = x * z * 18446744073709551616 := by rw [Int.mul_assoc, Int.mul_left_comm x, ← Int.mul_assoc, Int.mul_comm]; rfl
    have e2 : 4294967296 * x * v = x * v * 4294967296 := by rw [Int.mul_assoc, Int.mul_comm]
    have e3 : y * (4294967296 * z) = y * z * 4294967296 := by rw [Int.mul_left_comm, Int.mul_comm]
    rw [Int.add_mul, Int.mul_add, Int.mul_add, e1, e2, e3, Int.add_mul]
    omega
  omega
set_option maxHeartbeats 400000 in
theorem rutimes_any (a b : Int) (w : World) (ha : isU a) (hb : isU b) :
    Calls Try.prog 20 #[.int .u64 a, .int .u64 b] w fun e w' => e = .returned (.agg #[.int .u64 (lo64 a b), .int .u64 (hi64 a b)]) ∧ Below w.heap.size w w' := by
  obtain ⟨a0, a1⟩ := ha
  obtain ⟨b0, b1⟩ := hb
  have a2 : a ≤ 18446744073709551615 := by omega
  have b2 : b ≤ 18446744073709551615 := by omega
  obtain ⟨p0, p1⟩ := prodB (x := a % 4294967296) (y := b % 4294967296) (by omega) (by omega) (by omega) (by omega)
  obtain ⟨q0, q1⟩ := prodB (x := a / 4294967296) (y := b % 4294967296) (by omega) (by omega) (by omega) (by omega)
  obtain ⟨r0, r1⟩ := prodB (x := a % 4294967296) (y := b / 4294967296) (by omega) (by omega) (by omega) (by omega)
  obtain ⟨t0, t1⟩ := prodB (x := a / 4294967296) (y := b / 4294967296) (by omega) (by omega) (by omega) (by omega)
  clear a1 b1
  go_enter Try.func20, Try.ntmps20
  go_wp2
  go_returns
  refine ⟨?_, by go_grown⟩
  have hm := halves a0 b0 rfl rfl rfl rfl
  refine agg2 ?_ ?_
  · unfold lo64
    rw [hm]
    omega
  · unfold hi64
    rw [hm]
    omega
theorem isU_hi {x y : Int} (hx : isU x) (hy : isU y) : isU (hi64 x y) := by
  obtain ⟨x0, x1⟩ := hx
  obtain ⟨y0, y1⟩ := hy
  unfold isU hi64
  have h0 : 0 ≤ x * y := Int.mul_nonneg x0 y0
  have h1 : x * y ≤ 18446744073709551615 * 18446744073709551615 := Int.mul_le_mul (by omega) (by omega) y0 (by decide)
  generalize x * y = p at *
  omega
theorem isU_lo (x y : Int) : isU (lo64 x y) := by unfold isU lo64; omega
def rTHi (a b : Int) : Int := IntKind.u64.wrap (hi64 (IntKind.u64.wrap a) (IntKind.u64.wrap b) - (if a < 0 then IntKind.u64.wrap b else 0) - (if b < 0 then IntKind.u64.wrap a else 0))
set_option maxHeartbeats 1000000 in
theorem rtimes_any (a b : Int) (w : World) :
    Calls Try.prog 18 #[.int .i64 a, .int .i64 b] w fun e w' => e = .returned (.agg #[.int .u64 (lo64 (IntKind.u64.wrap a) (IntKind.u64.wrap b)), .int .u64 (rTHi a b)]) ∧ Below w.heap.size w w' := by
  obtain ⟨a0, a1⟩ := isU_wrap a
  obtain ⟨b0, b1⟩ := isU_wrap b
  obtain ⟨u0, u1⟩ := isU_hi (isU_wrap a) (isU_wrap b)
  by_cases h0 : a < 0
  · have k0 : decide (a < 0) = true := decide_eq_true h0
    by_cases h1 : b < 0
    · have k1 : decide (b < 0) = true := decide_eq_true h1
      have e1 : rTHi a b = IntKind.u64.wrap (hi64 (IntKind.u64.wrap a) (IntKind.u64.wrap b) - IntKind.u64.wrap b - IntKind.u64.wrap a) := by unfold rTHi; rw [if_pos h0, if_pos h1]
      have E1 := Lib.hid e1
      clear e1
      go_enter Try.func18, Try.ntmps18
      go_wp2_with (fail)
      refine (rutimes_any _ _ _ (isU_wrap _) (isU_wrap _)).mono ?_
      rintro e w1 ⟨rfl, hb⟩
      obtain ⟨hc, hf⟩ := bcell hb
      have hz : w.heap.size < w1.heap.size := bsize hb (by simp)
      have hB : Below w.heap.size w w1 := ((Below.refl _ _).alloc (Nat.le_refl _) _).trans (hb.mono (by simp))
      go_wp2
      refine bodyPost_ret (by simp [results, Try.results18, go_sem, hc, hz]; rfl) rfl ?_
      refine ⟨agg2 rfl ?_, by go_grown⟩
      rw [E1.out]
      simp only [IntKind.wrap_u64] at a0 a1 b0 b1 u0 u1 ⊢
      omega
    · have k1 : decide (b < 0) = false := decide_eq_false h1
      have e1 : rTHi a b = IntKind.u64.wrap (hi64 (IntKind.u64.wrap a) (IntKind.u64.wrap b) - IntKind.u64.wrap b - 0) := by unfold rTHi; rw [if_pos h0, if_neg h1]
      have E1 := Lib.hid e1
      clear e1
      go_enter Try.func18, Try.ntmps18
      go_wp2_with (fail)
      refine (rutimes_any _ _ _ (isU_wrap _) (isU_wrap _)).mono ?_
      rintro e w1 ⟨rfl, hb⟩
      obtain ⟨hc, hf⟩ := bcell hb
      have hz : w.heap.size < w1.heap.size := bsize hb (by simp)
      have hB : Below w.heap.size w w1 := ((Below.refl _ _).alloc (Nat.le_refl _) _).trans (hb.mono (by simp))
      go_wp2
      refine bodyPost_ret (by simp [results, Try.results18, go_sem, hc, hz]; rfl) rfl ?_
      refine ⟨agg2 rfl ?_, by go_grown⟩
      rw [E1.out]
      simp only [IntKind.wrap_u64] at a0 a1 b0 b1 u0 u1 ⊢
      omega
  · have k0 : decide (a < 0) = false := decide_eq_false h0
    by_cases h1 : b < 0
    · have k1 : decide (b < 0) = true := decide_eq_true h1
      have e1 : rTHi a b = IntKind.u64.wrap (hi64 (IntKind.u64.wrap a) (IntKind.u64.wrap b) - 0 - IntKind.u64.wrap a) := by unfold rTHi; rw [if_neg h0, if_pos h1]
      have E1 := Lib.hid e1
      clear e1
      go_enter Try.func18, Try.ntmps18
      go_wp2_with (fail)
      refine (rutimes_any _ _ _ (isU_wrap _) (isU_wrap _)).mono ?_
      rintro e w1 ⟨rfl, hb⟩
      obtain ⟨hc, hf⟩ := bcell hb
      have hz : w.heap.size < w1.heap.size := bsize hb (by simp)
      have hB : Below w.heap.size w w1 := ((Below.refl _ _).alloc (Nat.le_refl _) _).trans (hb.mono (by simp))
      go_wp2
      refine bodyPost_ret (by simp [results, Try.results18, go_sem, hc, hz]; rfl) rfl ?_
      refine ⟨agg2 rfl ?_, by go_grown⟩
      rw [E1.out]
      simp only [IntKind.wrap_u64] at a0 a1 b0 b1 u0 u1 ⊢
      omega
    · have k1 : decide (b < 0) = false := decide_eq_false h1
      have e1 : rTHi a b = IntKind.u64.wrap (hi64 (IntKind.u64.wrap a) (IntKind.u64.wrap b) - 0 - 0) := by unfold rTHi; rw [if_neg h0, if_neg h1]
      have E1 := Lib.hid e1
      clear e1
      go_enter Try.func18, Try.ntmps18
      go_wp2_with (fail)
      refine (rutimes_any _ _ _ (isU_wrap _) (isU_wrap _)).mono ?_
      rintro e w1 ⟨rfl, hb⟩
      obtain ⟨hc, hf⟩ := bcell hb
      have hz : w.heap.size < w1.heap.size := bsize hb (by simp)
      have hB : Below w.heap.size w w1 := ((Below.refl _ _).alloc (Nat.le_refl _) _).trans (hb.mono (by simp))
      go_wp2
      refine bodyPost_ret (by simp [results, Try.results18, go_sem, hc, hz]; rfl) rfl ?_
      refine ⟨agg2 rfl ?_, by go_grown⟩
      rw [E1.out]
      simp only [IntKind.wrap_u64] at a0 a1 b0 b1 u0 u1 ⊢
      omega
theorem rleft_no (a n : Int) (w : World) (h : n < 0 ∨ 63 < n) :
    Calls Try.prog 22 #[.int .i64 a, .int .i64 n] w fun e w' => e = .returned (.int .i64 0) ∧ w' = w := by
  rcases h with h | h
  · go_enter Try.func22, Try.ntmps22
    go_wp2
    go_returns
    exact ⟨rfl, rfl⟩
  · have h0 : ¬ n < 0 := by omega
    go_enter Try.func22, Try.ntmps22
    go_wp2
    go_returns
    exact ⟨rfl, rfl⟩
def dbl (a : Int) : Nat → Int
  | 0 => a
  | k + 1 => wrap64 (dbl a k + dbl a k)
end Go.Proofs.Ytfifbkcgaohhbaa
