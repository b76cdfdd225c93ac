import Derived.Test.YtfifbkcgaohhbaaCellC
namespace Go.Proofs.Ytfifbkcgaohhbaa
open Go.RowKit
set_option linter.unusedVariables false
set_option linter.unusedSimpArgs false
/-- a wide by a cell, rounded toward nought -/
def sQ (lo hi n : Int) : Int := dQ hi n (uq (aLo lo hi) (aHi lo hi) (aN n)) (uf (aHi lo hi) (aN n))
def sR (lo hi n : Int) : Int := dR hi n (uq (aLo lo hi) (aHi lo hi) (aN n)) (ur (aLo lo hi) (aHi lo hi) (aN n)) (uf (aHi lo hi) (aN n))
def sF (lo hi n : Int) : Int := dF hi n (uq (aLo lo hi) (aHi lo hi) (aN n)) (uf (aHi lo hi) (aN n))
theorem divide_is (lo hi n : Int) (w : World) :
    Calls Try.prog 40 #[.agg #[.int .i64 lo, .int .i64 hi], .int .i64 n] w fun e w' => e = .returned (.tuple #[.int .i64 (sQ lo hi n), .int .i64 (sR lo hi n), .int .i64 (sF lo hi n)]) ∧ Below w.heap.size w w' := divide_any lo hi n w
set_option maxHeartbeats 400000 in
theorem sdivide_any (lo hi n : Int) (w : World) :
    Calls Try.prog 37 #[.agg #[.int .i64 lo, .int .i64 hi], .int .i64 n] w fun e w' => e = .returned (.tuple #[.int .i64 (sQ lo hi n), .int .i64 (sR lo hi n), .int .i64 (sF lo hi n)]) ∧ Below w.heap.size w w' := by
  go_enter Try.func37, Try.ntmps37
  go_wp2_with (fail)
  refine (divide_is _ _ _ _).mono ?_
  rintro e w1 ⟨rfl, hb⟩
  have hB : Below w.heap.size w w1 := ((Below.refl _ _).alloc (Nat.le_refl _) _).trans (hb.mono (by simp))
  go_wp2
  go_returns
  exact ⟨rfl, hB⟩
/-- does what is left want the quotient rounded down? -/
def down (r n : Int) : Bool := (r != 0) && decide (bits BinOp.xor IntKind.i64 r n < 0)
def fF (lo hi n : Int) : Int := if sF lo hi n = 0 then (if down (sR lo hi n) n = true then (if sQ lo hi n = -9223372036854775808 then 7 else 0) else 0) else sF lo hi n
def fQ (lo hi n : Int) : Int := if sF lo hi n = 0 ∧ down (sR lo hi n) n = true then (if sQ lo hi n = -9223372036854775808 then 0 else wrap64 (sQ lo hi n - 1)) else sQ lo hi n
def fR (lo hi n : Int) : Int := if sF lo hi n = 0 ∧ down (sR lo hi n) n = true then (if sQ lo hi n = -9223372036854775808 then 0 else wrap64 (sR lo hi n + n)) else sR lo hi n
set_option maxHeartbeats 1000000 in
theorem fdivide_any (lo hi n : Int) (w : World) :
    Calls Try.prog 35 #[.agg #[.int .i64 lo, .int .i64 hi], .int .i64 n] w fun e w' => e = .returned (.tuple #[.int .i64 (fQ lo hi n), .int .i64 (fR lo hi n), .int .i64 (fF lo hi n)]) ∧ Below w.heap.size w w' := by
  go_enter Try.func35, Try.ntmps35
  go_wp2_with (fail)
  refine (divide_is _ _ _ _).mono ?_
  rintro e w1 ⟨rfl, hb⟩
  have hB : Below w.heap.size w w1 := ((Below.refl _ _).alloc (Nat.le_refl _) _).trans (hb.mono (by simp))
  by_cases c1 : sF lo hi n = 0
  · have k1 : (sF lo hi n == 0) = true := by simp [c1]
    have C1 := Lib.hid c1
    clear c1
    by_cases c2 : sR lo hi n = 0
    · have k2 : (sR lo hi n != 0) = false := by simp [c2]
      have C2 := Lib.hid c2
      clear c2
      go_wp2
      go_returns
      exact ⟨by simp [fQ, fR, fF, down, C1.out, C2.out], hB⟩
    · have k2 : (sR lo hi n != 0) = true := by simp [c2]
      by_cases c3 : bits BinOp.xor IntKind.i64 (sR lo hi n) n < 0
      · have k3 : decide (bits BinOp.xor IntKind.i64 (sR lo hi n) n < 0) = true := decide_eq_true c3
        by_cases c4 : sQ lo hi n = -9223372036854775808
        · have k4 : (sQ lo hi n == -9223372036854775808) = true := by simp [c4]
          have C4 := Lib.hid c4
          clear c4
          go_wp2
          go_returns
          exact ⟨by simp [fQ, fR, fF, down, C1.out, c2, c3, C4.out], hB⟩
        · have k4 : (sQ lo hi n == -9223372036854775808) = false := by simp [c4]
          go_wp2
          go_returns
          exact ⟨by simp [fQ, fR, fF, down, C1.out, c2, c3, c4], hB⟩
      · have k3 : decide (bits BinOp.xor IntKind.i64 (sR lo hi n) n < 0) = false := decide_eq_false c3
        have C3 := Lib.hid c3
        go_wp2
        go_returns
        have n3 : ¬ bits BinOp.xor IntKind.i64 (sR lo hi n) n < 0 := Int.not_lt.2 c3
        exact ⟨by simp [fQ, fR, fF, down, C1.out, c2, n3], hB⟩
  · have k1 : (sF lo hi n == 0) = false := by simp [c1]
    go_wp2
    go_returns
    exact ⟨by simp [fQ, fR, fF, down, c1], hB⟩
/-- one cell by another -/
def yQ (a b : Int) : Int := if b = 0 then 0 else wrap64 (a.tdiv b)
def yR (a b : Int) : Int := if b = 0 then 0 else a.tmod b
def yF (b : Int) : Int := if b = 0 then 7 else 0
theorem symmetric_any (a b : Int) (w : World) :
    Calls Try.prog 12 #[.int .i64 a, .int .i64 b] w fun e w' => e = .returned (.tuple #[.int .i64 (yQ a b), .int .i64 (yR a b), .int .i64 (yF b)]) ∧ ∃ n, w' = w.drewN n := by
  unfold yQ yR yF
  by_cases h : b = 0
  · subst h
    go_enter Try.func12, Try.ntmps12
    go_wp2
    go_returns
    exact ⟨rfl, 0, rfl⟩
  · have h0 : (b == 0) = false := beq_eq_false_iff_ne.2 h
    rw [if_neg h, if_neg h, if_neg h]
    go_enter Try.func12, Try.ntmps12
    go_wp2
    go_quiet (fail)
    go_wp2
    go_returns
    exact ⟨rfl, _, rfl⟩
def zQ (a b : Int) : Int := if down (yR a b) b = true then wrap64 (yQ a b - 1) else yQ a b
def zR (a b : Int) : Int := if down (yR a b) b = true then wrap64 (yR a b + b) else yR a b
set_option maxHeartbeats 400000 in
theorem floored_any (a b : Int) (w : World) :
    Calls Try.prog 11 #[.int .i64 a, .int .i64 b] w fun e w' => e = .returned (.tuple #[.int .i64 (zQ a b), .int .i64 (zR a b), .int .i64 (yF b)]) ∧ ∃ n, w' = w.drewN n := by
  by_cases c2 : yR a b = 0
  · have k2 : (yR a b != 0) = false := by simp [c2]
    have C2 := Lib.hid c2
    clear c2
    go_enter Try.func11, Try.ntmps11
    go_wp2_with (go_at_call 12; refine (symmetric_any _ _ _).mono ?_; rintro e w' ⟨rfl, m, rfl⟩)
    go_returns
    exact ⟨by simp [zQ, zR, down, C2.out], _, rfl⟩
  · have k2 : (yR a b != 0) = true := by simp [c2]
    by_cases c3 : bits BinOp.xor IntKind.i64 (yR a b) b < 0
    · have k3 : decide (bits BinOp.xor IntKind.i64 (yR a b) b < 0) = true := decide_eq_true c3
      go_enter Try.func11, Try.ntmps11
      go_wp2_with (go_at_call 12; refine (symmetric_any _ _ _).mono ?_; rintro e w' ⟨rfl, m, rfl⟩)
      go_returns
      exact ⟨by simp [zQ, zR, down, c2, c3], _, rfl⟩
    · have k3 : decide (bits BinOp.xor IntKind.i64 (yR a b) b < 0) = false := decide_eq_false c3
      have C3 := Lib.hid c3
      go_enter Try.func11, Try.ntmps11
      go_wp2_with (go_at_call 12; refine (symmetric_any _ _ _).mono ?_; rintro e w' ⟨rfl, m, rfl⟩)
      go_returns
      have n3 : ¬ bits BinOp.xor IntKind.i64 (yR a b) b < 0 := Int.not_lt.2 c3
      exact ⟨by simp [zQ, zR, down, c2, n3], _, rfl⟩
end Go.Proofs.Ytfifbkcgaohhbaa
