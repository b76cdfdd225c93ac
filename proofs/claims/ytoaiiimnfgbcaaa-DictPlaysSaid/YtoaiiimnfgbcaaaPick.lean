import Derived.Test.YtoaiiimnfgbcaaaBlk
import Derived.Test.YtoaiiimnfgbcaaaProg
namespace Go.Proofs.Ytoaiiimnfgbcaaa
open Go.RowKit
set_option linter.unusedVariables false
set_option linter.unusedSimpArgs false
/-- which of n things a raw number speaks of -/
def pickN (c : Int) (n : Nat) : Nat := ((if c < 0 then -(c + 1) else c) % (n : Int)).toNat
theorem pickN_lt (c : Int) (n : Nat) (h : 0 < n) : pickN c n < n := by
  unfold pickN
  have g1 := Int.emod_nonneg (if c < 0 then -(c + 1) else c) (by omega : (n : Int) ≠ 0)
  have g2 := Int.emod_lt_of_pos (if c < 0 then -(c + 1) else c) (by omega : (0 : Int) < n)
  omega
theorem pick_any (c n : Int) (w : World) (hc1 : -9223372036854775808 ≤ c) (hc2 : c ≤ 9223372036854775807) (hn : 0 < n) (hn2 : n ≤ 4611686018427387904) : Calls Try.prog 18 #[.int .i64 c, .int .i64 n] w fun e w' => e = .returned (.int .i64 (pickN c n.toNat)) ∧ w' = w := by
  have h1 : decide (n = 0) = false := by simp; omega
  have hp : (pickN c n.toNat : Int) = (if c < 0 then -(c + 1) else c) % n := by
    unfold pickN
    have g1 := Int.emod_nonneg (if c < 0 then -(c + 1) else c) (by omega : n ≠ 0)
    rw [show ((n.toNat : Nat) : Int) = n by omega]
    omega
  replace hp := Lib.hid hp
  by_cases h : c < 0
  · have hd : decide (c < 0) = true := by simpa using h
    go_enter Try.func18, Try.ntmps18
    go_wp2
    go_returns
    have e : -((c + 1).tmod n) = (-(c + 1)) % n := by
      rw [← Int.neg_tmod, Int.tmod_eq_emod_of_nonneg (by omega)]
    refine ⟨?_, rfl⟩
    rw [hp.out, if_pos h, ← e]; rfl
  · have hd : decide (c < 0) = false := by simpa using h
    go_enter Try.func18, Try.ntmps18
    go_wp2
    go_returns
    refine ⟨?_, rfl⟩
    rw [hp.out, if_neg (Int.not_lt.2 h)]; rfl
end Go.Proofs.Ytoaiiimnfgbcaaa
