import Derived.Test.YtfifbkcgaohhbaaCellE
namespace Go.Proofs.Ytfifbkcgaohhbaa
open Go.RowKit
set_option linter.unusedVariables false
set_option linter.unusedSimpArgs false
theorem rleft_yes (a : Int) (n : Nat) (w : World) (h : n ≤ 63) :
    Calls Try.prog 22 #[.int .i64 a, .int .i64 n] w fun e w' => e = .returned (.int .i64 (dbl a n)) ∧ w' = w := by
  have g0 : decide ((n : Int) < 0) = false := decide_eq_false (by omega)
  have g1 : decide ((63 : Int) < (n : Int)) = false := decide_eq_false (by omega)
  go_enter Try.func22, Try.ntmps22
  go_wp2
  go_loop [0, 5] (fun x i => ∃ k : Nat, k ≤ n ∧ i = .int .i64 k ∧ x = .int .i64 (dbl a k)) (fun _ i => n - (intOf i).toNat)
  case atStart => exact ⟨0, Nat.zero_le _, rfl, rfl⟩
  case round =>
    obtain ⟨k, hk, rfl, rfl⟩ := hrel
    by_cases hlt : k < n
    · go_wp2
      go_round
      case rel => exact ⟨k + 1, by omega, by go_num, rfl⟩
      case measure => simp [intOf]; omega
    · have : k = n := by omega
      subst this
      go_wp2
      go_returns
      exact ⟨rfl, rfl⟩
theorem rright_no (a n : Int) (w : World) (h : n < 0 ∨ 63 < n) :
    Calls Try.prog 24 #[.int .i64 a, .int .i64 n] w fun e w' => e = .returned (.int .i64 0) ∧ w' = w := by
  rcases h with h | h
  · go_enter Try.func24, Try.ntmps24
    go_wp2
    go_returns
    exact ⟨rfl, rfl⟩
  · have h0 : ¬ n < 0 := by omega
    go_enter Try.func24, Try.ntmps24
    go_wp2
    go_returns
    exact ⟨rfl, rfl⟩
def hlf (u : Int) : Nat → Int
  | 0 => u
  | k + 1 => hlf u k / 2
theorem hlf_is (u : Int) : ∀ k, isU u → isU (hlf u k)
  | 0, h => h
  | k + 1, h => by
    have ⟨a, b⟩ := hlf_is u k h
    unfold isU hlf
    omega
theorem rright_yes (a : Int) (n : Nat) (w : World) (h : n ≤ 63) :
    Calls Try.prog 24 #[.int .i64 a, .int .i64 n] w fun e w' => e = .returned (.int .i64 (wrap64 (hlf (IntKind.u64.wrap a) n))) ∧ w' = w := by
  have g0 : decide ((n : Int) < 0) = false := decide_eq_false (by omega)
  have g1 : decide ((63 : Int) < (n : Int)) = false := decide_eq_false (by omega)
  go_enter Try.func24, Try.ntmps24
  go_wp2
  go_loop [5, 6] (fun x i => ∃ k : Nat, k ≤ n ∧ i = .int .i64 k ∧ x = .int .u64 (hlf (IntKind.u64.wrap a) k)) (fun _ i => n - (intOf i).toNat)
  case atStart => exact ⟨0, Nat.zero_le _, rfl, rfl⟩
  case round =>
    obtain ⟨k, hk, rfl, rfl⟩ := hrel
    obtain ⟨u0, u1⟩ := hlf_is _ k (isU_wrap a)
    by_cases hlt : k < n
    · go_wp2
      go_round
      case rel => exact ⟨k + 1, by omega, by go_num, rfl⟩
      case measure => simp [intOf]; omega
    · have : k = n := by omega
      subst this
      go_wp2
      go_returns
      exact ⟨rfl, rfl⟩
/-! the reference's division, bit by bit -/
structure Bd (hi lo n : Int) (m : Nat) (q r : Int) : Prop where
  e : hi * 2 ^ (64 - m) + lo / 2 ^ m = q * n + r
  r0 : 0 ≤ r
  r1 : r < n
  q0 : 0 ≤ q
  q1 : q < 2 ^ (64 - m)
theorem Bd.start {hi lo n : Int} (h : hi < n) (hh : 0 ≤ hi) (hl : isU lo) : Bd hi lo n 64 0 hi :=
  ⟨by have := hl.1; have := hl.2; simp; omega, hh, h, by omega, by simp⟩
theorem Bd.fin {hi lo n q r : Int} (b : Bd hi lo n 0 q r) : q = quoW hi lo n ∧ r = remW hi lo n := by
  have e := b.e
  simp at e
  obtain ⟨f1, f2⟩ := div_unique (N := hi * 18446744073709551616 + lo) (Q := q) (R := r) (by have := b.r0; have := b.r1; omega) e b.r0 b.r1
  exact ⟨f1.symm, f2.symm⟩
theorem Bd.val {hi lo n q r b : Int} {p : Nat} (bd : Bd hi lo n (p + 1) q r) (hp : p + 1 ≤ 64) (hl : 0 ≤ lo) (hb : (lo / 2 ^ p).tmod 2 = b) :
    hi * 2 ^ (64 - p) + lo / 2 ^ p = (2 * q) * n + (2 * r + b) ∧ 0 ≤ b ∧ b ≤ 1 ∧ (2 : Int) ^ (64 - p) = 2 * 2 ^ (64 - (p + 1)) ∧ (2 : Int) ^ (64 - (p + 1)) ≤ 9223372036854775808 := by
  have e := bd.e
  have h0 : 0 ≤ lo / 2 ^ p := Int.ediv_nonneg hl (Int.le_of_lt (Int.pow_pos (by decide)))
  rw [Int.tmod_eq_emod_of_nonneg h0] at hb
  have e1 : lo / 2 ^ (p + 1) = lo / 2 ^ p / 2 := by rw [Int.pow_succ, Int.ediv_ediv_of_nonneg (Int.le_of_lt (Int.pow_pos (by decide)))]
  have e2 : (2 : Int) ^ (64 - p) = 2 * 2 ^ (64 - (p + 1)) := by rw [show 64 - p = (64 - (p + 1)) + 1 from by omega, Int.pow_succ, Int.mul_comm]
  have e3 : (2 : Int) ^ (64 - (p + 1)) ≤ 2 ^ 63 := by
    have := Nat.pow_le_pow_right (show 0 < 2 by decide) (show 64 - (p + 1) ≤ 63 by omega)
    exact_mod_cast this
  rw [e1] at e
  refine ⟨?_, by omega, by omega, e2, e3⟩
  rw [e2, Int.mul_left_comm, Int.mul_assoc 2 q n]
  generalize hi * 2 ^ (64 - (p + 1)) = x at *
  generalize q * n = y at *
  omega
/-- a bit of the quotient: 1 -/
theorem Bd.one {hi lo n q r b : Int} {p : Nat} (bd : Bd hi lo n (p + 1) q r) (hp : p + 1 ≤ 64) (hl : 0 ≤ lo) (hb : (lo / 2 ^ p).tmod 2 = b) (h : n ≤ 2 * r + b) : Bd hi lo n p (2 * q + 1) (2 * r + b - n) := by
  obtain ⟨e, b0, b1, e2, e3⟩ := bd.val hp hl hb
  have := bd.q0; have := bd.q1; have := bd.r0; have := bd.r1
  exact ⟨by rw [e, Int.add_mul]; omega, by omega, by omega, by omega, by omega⟩
theorem Bd.zero {hi lo n q r b : Int} {p : Nat} (bd : Bd hi lo n (p + 1) q r) (hp : p + 1 ≤ 64) (hl : 0 ≤ lo) (hb : (lo / 2 ^ p).tmod 2 = b) (h : 2 * r + b < n) : Bd hi lo n p (2 * q) (2 * r + b) := by
  obtain ⟨e, b0, b1, e2, e3⟩ := bd.val hp hl hb
  have := bd.q0; have := bd.q1; have := bd.r0; have := bd.r1
  exact ⟨e, by omega, by omega, by omega, by omega⟩
theorem rudivide_no (lo hi n : Int) (w : World) (h : n ≤ hi) (hn : 0 ≤ n) :
    Calls Try.prog 34 #[.agg #[.int .u64 lo, .int .u64 hi], .int .u64 n] w fun e w' => e = .returned (.tuple #[.int .u64 0, .int .u64 0, .bool false]) ∧ Below w.heap.size w w' := by
  by_cases hz : n = 0
  · subst hz
    go_enter Try.func34, Try.ntmps34
    go_wp2
    go_returns
    exact ⟨rfl, by go_grown⟩
  · have hz0 : (n == 0) = false := beq_eq_false_iff_ne.2 hz
    go_enter Try.func34, Try.ntmps34
    go_wp2
    go_returns
    exact ⟨rfl, by go_grown⟩
theorem rudivide_yes (lo hi n : Int) (w : World) (h : hi < n) (hn : isU n) (hl : isU lo) (hh : 0 ≤ hi) :
    Calls Try.prog 34 #[.agg #[.int .u64 lo, .int .u64 hi], .int .u64 n] w fun e w' => e = .returned (.tuple #[.int .u64 (quoW hi lo n), .int .u64 (remW hi lo n), .bool true]) ∧ Below w.heap.size w w' := by
  obtain ⟨n0, n1⟩ := hn
  have hz0 : (n == 0) = false := beq_eq_false_iff_ne.2 (by omega)
  go_enter Try.func34, Try.ntmps34
  go_wp2
  go_loop [7, 8, 9] (fun q r i => ∃ (m : Nat) (q' r' : Int), m ≤ 64 ∧ q = .int .u64 q' ∧ r = .int .u64 r' ∧ i = .int .i64 ((m : Int) - 1) ∧ Bd hi lo n m q' r') (fun _ _ i => (intOf i + 1).toNat)
  case atStart => exact ⟨64, 0, hi, by omega, rfl, rfl, rfl, Bd.start h hh hl⟩
  case round =>
    obtain ⟨m, q, r, hm, rfl, rfl, rfl, bd⟩ := hrel
    rcases m with _ | p
    · obtain ⟨e1, e2⟩ := bd.fin
      have E1 := Lib.hid e1
      have E2 := Lib.hid e2
      clear e1 e2 bd
      go_wp2
      go_returns
      exact ⟨by rw [← E1.out, ← E2.out]; rfl, by go_grown⟩
    · have e : ((p + 1 : Nat) : Int) - 1 = (p : Int) := by omega
      rw [e]
      clear e
      have r0 := bd.r0
      have r1 := bd.r1
      have q0 := bd.q0
      have q1 := bd.q1
      obtain ⟨b, hb⟩ : ∃ b, (lo / 2 ^ p).tmod 2 = b := ⟨_, rfl⟩
      obtain ⟨_, b0, b1, _, e3⟩ := bd.val hm hl.1 hb
      have q2 : 2 * q + 1 ≤ 18446744073709551615 := by omega
      clear q1 e3
      by_cases c1 : n ≤ 2 * r + b
      · have B1 := Lib.hid (bd.one hm hl.1 hb c1)
        clear bd
        by_cases c2 : r < 9223372036854775808
        · have c3 : 2 * r + b ≤ 18446744073709551615 := by omega
          go_wp2
          go_round
          case rel => exact ⟨p, _, _, by omega, rfl, rfl, rfl, B1.out⟩
          case measure => simp [intOf]
        · have e4 : IntKind.u64.wrap (IntKind.u64.wrap (IntKind.u64.wrap (2 * r) + b) - n) = 2 * r + b - n := by simp only [IntKind.wrap_u64]; omega
          go_wp2
          go_round
          case rel => exact ⟨p, _, _, by omega, rfl, rfl, rfl, B1.out⟩
          case measure => simp [intOf]
      · have B1 := Lib.hid (bd.zero hm hl.1 hb (by omega))
        clear bd
        have c2 : r < 9223372036854775808 := by omega
        go_wp2
        go_round
        case rel => exact ⟨p, _, _, by omega, rfl, rfl, rfl, B1.out⟩
        case measure => simp [intOf]
end Go.Proofs.Ytfifbkcgaohhbaa
