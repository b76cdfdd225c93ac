import Derived.Test.YtfifbkcgaohhbaaCellB
namespace Go.Proofs.Ytfifbkcgaohhbaa
open Go.RowKit
set_option linter.unusedVariables false
set_option linter.unusedSimpArgs false
/-- what 'divide' hands the division without signs, and what it makes of its answer -/
def aLo (lo hi : Int) : Int := if hi < 0 then wrap64 (oLo lo) else lo
def aHi (lo hi : Int) : Int := if hi < 0 then wrap64 (oHi lo hi) else hi
def aN (n : Int) : Int := if n < 0 then wrap64 (-n) else n
def dF (hi n q f : Int) : Int := if f = 0 then (if (decide (hi < 0)) = decide (n < 0) then (if q < 0 then 7 else 0) else (if q < 0 ∧ q ≠ -9223372036854775808 then 7 else 0)) else 7
def dQ (hi n q f : Int) : Int := if dF hi n q f = 0 then (if (decide (hi < 0)) = decide (n < 0) then q else wrap64 (-q)) else 0
def dR (hi n q r f : Int) : Int := if dF hi n q f = 0 then (if hi < 0 then wrap64 (-r) else r) else 0
def dV (hi n q r f : Int) : Value := .tuple #[.int .i64 (dQ hi n q f), .int .i64 (dR hi n q r f), .int .i64 (dF hi n q f)]
theorem uf_7 {hi n : Int} (h : ¬ uf hi n = 0) : uf hi n = 7 := by
  unfold uf at h ⊢
  split
  · rename_i c
    rw [if_pos c] at h
    exact absurd rfl h
  · rfl
set_option maxHeartbeats 1000000 in
theorem divide_pp (lo hi n : Int) (w : World) (h0 : ¬ hi < 0) (h1 : ¬ n < 0) :
    Calls Try.prog 40 #[.agg #[.int .i64 lo, .int .i64 hi], .int .i64 n] w fun e w' => e = .returned (dV hi n (uq (aLo lo hi) (aHi lo hi) (aN n)) (ur (aLo lo hi) (aHi lo hi) (aN n)) (uf (aHi lo hi) (aN n))) ∧ Below w.heap.size w w' := by
  have e1 : aLo lo hi = lo := if_neg h0
  have e2 : aHi lo hi = hi := if_neg h0
  have e3 : aN n = n := if_neg h1
  rw [e1, e2, e3]
  clear e1 e2 e3
  have g0 : decide (hi < 0) = false := decide_eq_false h0
  have g1 : decide (n < 0) = false := decide_eq_false h1
  go_enter Try.func40, Try.ntmps40
  go_wp2_with (fail)
  refine (udivide_any _ _ _ _).mono ?_
  rintro e w1 ⟨rfl, hb⟩
  obtain ⟨hc, hf⟩ := bcell hb
  have hz : w.heap.size + 1 < w1.heap.size := bsize hb (by simp)
  have hB : Below w.heap.size w w1 := (((Below.refl _ _).alloc (Nat.le_refl _) _).alloc (by simp) _).trans (hb.mono (by simp; omega))
  by_cases c1 : uf hi n = 0
  · have k1 : (uf hi n != 0) = false := by simp [c1]
    have C1 := Lib.hid c1
    clear c1
    by_cases c2 : uq lo hi n < 0
    · have k2 : decide (uq lo hi n < 0) = true := decide_eq_true c2
      go_wp2
      go_returns
      have n0 : ¬ hi < 0 := by omega
      have n1 : ¬ n < 0 := by omega
      have n2 : uq lo hi n < 0 := by first | assumption | omega | (rw [C3.out]; omega)
      exact ⟨by simp [dV, dQ, dR, dF, C1.out, n2, n0, n1], by go_grown⟩
    · have k2 : decide (uq lo hi n < 0) = false := decide_eq_false c2
      go_wp2
      go_returns
      have n0 : ¬ hi < 0 := by omega
      have n1 : ¬ n < 0 := by omega
      have n2 : ¬ uq lo hi n < 0 := by omega
      exact ⟨by simp [dV, dQ, dR, dF, C1.out, n2, n0, n1], by go_grown⟩
  · have k1 : (uf hi n != 0) = true := by simp [c1]
    have e7 : uf hi n = 7 := uf_7 c1
    have E7 := Lib.hid e7
    clear e7
    go_wp2
    go_returns
    exact ⟨by simp [dV, dQ, dR, dF, E7.out], by go_grown⟩
set_option maxHeartbeats 1000000 in
theorem divide_pn (lo hi n : Int) (w : World) (h0 : ¬ hi < 0) (h1 : n < 0) :
    Calls Try.prog 40 #[.agg #[.int .i64 lo, .int .i64 hi], .int .i64 n] w fun e w' => e = .returned (dV hi n (uq (aLo lo hi) (aHi lo hi) (aN n)) (ur (aLo lo hi) (aHi lo hi) (aN n)) (uf (aHi lo hi) (aN n))) ∧ Below w.heap.size w w' := by
  have e1 : aLo lo hi = lo := if_neg h0
  have e2 : aHi lo hi = hi := if_neg h0
  have e3 : aN n = wrap64 (-n) := if_pos h1
  rw [e1, e2, e3]
  clear e1 e2 e3
  have g0 : decide (hi < 0) = false := decide_eq_false h0
  have g1 : decide (n < 0) = true := decide_eq_true h1
  go_enter Try.func40, Try.ntmps40
  go_wp2_with (fail)
  refine (udivide_any _ _ _ _).mono ?_
  rintro e w1 ⟨rfl, hb⟩
  obtain ⟨hc, hf⟩ := bcell hb
  have hz : w.heap.size + 1 < w1.heap.size := bsize hb (by simp)
  have hB : Below w.heap.size w w1 := (((Below.refl _ _).alloc (Nat.le_refl _) _).alloc (by simp) _).trans (hb.mono (by simp; omega))
  by_cases c1 : uf hi (wrap64 (-n)) = 0
  · have k1 : (uf hi (wrap64 (-n)) != 0) = false := by simp [c1]
    have C1 := Lib.hid c1
    clear c1
    by_cases c2 : uq lo hi (wrap64 (-n)) < 0
    · have k2 : decide (uq lo hi (wrap64 (-n)) < 0) = true := decide_eq_true c2
      by_cases c3 : uq lo hi (wrap64 (-n)) = -9223372036854775808
      · have k3 : (uq lo hi (wrap64 (-n)) != -9223372036854775808) = false := by simp [c3]
        have C3 := Lib.hid c3
        clear c3
        go_wp2
        go_returns
        have n0 : ¬ hi < 0 := by omega
        have n1 : n < 0 := by omega
        have n2 : uq lo hi (wrap64 (-n)) < 0 := by first | assumption | omega | (rw [C3.out]; omega)
        exact ⟨by simp [dV, dQ, dR, dF, C1.out, n2, C3.out, n0, n1], by go_grown⟩
      · have k3 : (uq lo hi (wrap64 (-n)) != -9223372036854775808) = true := by simp [c3]
        go_wp2
        go_returns
        have n0 : ¬ hi < 0 := by omega
        have n1 : n < 0 := by omega
        have n2 : uq lo hi (wrap64 (-n)) < 0 := by first | assumption | omega | (rw [C3.out]; omega)
        exact ⟨by simp [dV, dQ, dR, dF, C1.out, n2, c3, n0, n1], by go_grown⟩
    · have k2 : decide (uq lo hi (wrap64 (-n)) < 0) = false := decide_eq_false c2
      go_wp2
      go_returns
      have n0 : ¬ hi < 0 := by omega
      have n1 : n < 0 := by omega
      have n2 : ¬ uq lo hi (wrap64 (-n)) < 0 := by omega
      exact ⟨by simp [dV, dQ, dR, dF, C1.out, n2, n0, n1], by go_grown⟩
  · have k1 : (uf hi (wrap64 (-n)) != 0) = true := by simp [c1]
    have e7 : uf hi (wrap64 (-n)) = 7 := uf_7 c1
    have E7 := Lib.hid e7
    clear e7
    go_wp2
    go_returns
    exact ⟨by simp [dV, dQ, dR, dF, E7.out], by go_grown⟩
set_option maxHeartbeats 1000000 in
theorem divide_np (lo hi n : Int) (w : World) (h0 : hi < 0) (h1 : ¬ n < 0) :
    Calls Try.prog 40 #[.agg #[.int .i64 lo, .int .i64 hi], .int .i64 n] w fun e w' => e = .returned (dV hi n (uq (aLo lo hi) (aHi lo hi) (aN n)) (ur (aLo lo hi) (aHi lo hi) (aN n)) (uf (aHi lo hi) (aN n))) ∧ Below w.heap.size w w' := by
  have e1 : aLo lo hi = wrap64 (oLo lo) := if_pos h0
  have e2 : aHi lo hi = wrap64 (oHi lo hi) := if_pos h0
  have e3 : aN n = n := if_neg h1
  rw [e1, e2, e3]
  clear e1 e2 e3
  have g0 : decide (hi < 0) = true := decide_eq_true h0
  have g1 : decide (n < 0) = false := decide_eq_false h1
  go_enter Try.func40, Try.ntmps40
  go_wp2_with (fail)
  refine (opposite_any _ _ _).mono ?_
  rintro e w0 ⟨rfl, hb0⟩
  obtain ⟨hc0, hf0⟩ := bcell hb0
  have hz0 : w.heap.size + 1 < w0.heap.size := bsize hb0 (by simp)
  have hB0 : Below w.heap.size w w0 := (((Below.refl _ _).alloc (Nat.le_refl _) _).alloc (by simp) _).trans (hb0.mono (by simp; omega))
  have q0 : w0.cell? ⟨w.heap.size, 0, none⟩ = some (.int .i64 lo) := by rw [hc0 _ _ (by simp; omega)]; simp [go_sem]
  have q1 : w0.cell? ⟨w.heap.size, 1, none⟩ = some (.int .i64 hi) := by rw [hc0 _ _ (by simp; omega)]; simp [go_sem]
  go_wp2_with (fail)
  refine (udivide_any _ _ _ _).mono ?_
  rintro e w1 ⟨rfl, hb⟩
  obtain ⟨hc, hf⟩ := bcell hb
  have hz : w.heap.size + 1 < w1.heap.size := Nat.lt_of_lt_of_le hz0 (by simpa using hb.size)
  have hB : Below w.heap.size w w1 := hB0.trans ((((Below.refl _ _).setCell (by simp) _).setCell (by simp) _).trans (hb.mono (by simp; omega)))
  by_cases c1 : uf (wrap64 (oHi lo hi)) n = 0
  · have k1 : (uf (wrap64 (oHi lo hi)) n != 0) = false := by simp [c1]
    have C1 := Lib.hid c1
    clear c1
    by_cases c2 : uq (wrap64 (oLo lo)) (wrap64 (oHi lo hi)) n < 0
    · have k2 : decide (uq (wrap64 (oLo lo)) (wrap64 (oHi lo hi)) n < 0) = true := decide_eq_true c2
      by_cases c3 : uq (wrap64 (oLo lo)) (wrap64 (oHi lo hi)) n = -9223372036854775808
      · have k3 : (uq (wrap64 (oLo lo)) (wrap64 (oHi lo hi)) n != -9223372036854775808) = false := by simp [c3]
        have C3 := Lib.hid c3
        clear c3
        go_wp2
        go_returns
        have n0 : hi < 0 := by omega
        have n1 : ¬ n < 0 := by omega
        have n2 : uq (wrap64 (oLo lo)) (wrap64 (oHi lo hi)) n < 0 := by first | assumption | omega | (rw [C3.out]; omega)
        exact ⟨by simp [dV, dQ, dR, dF, C1.out, n2, C3.out, n0, n1], by go_grown⟩
      · have k3 : (uq (wrap64 (oLo lo)) (wrap64 (oHi lo hi)) n != -9223372036854775808) = true := by simp [c3]
        go_wp2
        go_returns
        have n0 : hi < 0 := by omega
        have n1 : ¬ n < 0 := by omega
        have n2 : uq (wrap64 (oLo lo)) (wrap64 (oHi lo hi)) n < 0 := by first | assumption | omega | (rw [C3.out]; omega)
        exact ⟨by simp [dV, dQ, dR, dF, C1.out, n2, c3, n0, n1], by go_grown⟩
    · have k2 : decide (uq (wrap64 (oLo lo)) (wrap64 (oHi lo hi)) n < 0) = false := decide_eq_false c2
      go_wp2
      go_returns
      have n0 : hi < 0 := by omega
      have n1 : ¬ n < 0 := by omega
      have n2 : ¬ uq (wrap64 (oLo lo)) (wrap64 (oHi lo hi)) n < 0 := by omega
      exact ⟨by simp [dV, dQ, dR, dF, C1.out, n2, n0, n1], by go_grown⟩
  · have k1 : (uf (wrap64 (oHi lo hi)) n != 0) = true := by simp [c1]
    have e7 : uf (wrap64 (oHi lo hi)) n = 7 := uf_7 c1
    have E7 := Lib.hid e7
    clear e7
    go_wp2
    go_returns
    exact ⟨by simp [dV, dQ, dR, dF, E7.out], by go_grown⟩
set_option maxHeartbeats 1000000 in
theorem divide_nn (lo hi n : Int) (w : World) (h0 : hi < 0) (h1 : n < 0) :
    Calls Try.prog 40 #[.agg #[.int .i64 lo, .int .i64 hi], .int .i64 n] w fun e w' => e = .returned (dV hi n (uq (aLo lo hi) (aHi lo hi) (aN n)) (ur (aLo lo hi) (aHi lo hi) (aN n)) (uf (aHi lo hi) (aN n))) ∧ Below w.heap.size w w' := by
  have e1 : aLo lo hi = wrap64 (oLo lo) := if_pos h0
  have e2 : aHi lo hi = wrap64 (oHi lo hi) := if_pos h0
  have e3 : aN n = wrap64 (-n) := if_pos h1
  rw [e1, e2, e3]
  clear e1 e2 e3
  have g0 : decide (hi < 0) = true := decide_eq_true h0
  have g1 : decide (n < 0) = true := decide_eq_true h1
  go_enter Try.func40, Try.ntmps40
  go_wp2_with (fail)
  refine (opposite_any _ _ _).mono ?_
  rintro e w0 ⟨rfl, hb0⟩
  obtain ⟨hc0, hf0⟩ := bcell hb0
  have hz0 : w.heap.size + 1 < w0.heap.size := bsize hb0 (by simp)
  have hB0 : Below w.heap.size w w0 := (((Below.refl _ _).alloc (Nat.le_refl _) _).alloc (by simp) _).trans (hb0.mono (by simp; omega))
  have q0 : w0.cell? ⟨w.heap.size, 0, none⟩ = some (.int .i64 lo) := by rw [hc0 _ _ (by simp; omega)]; simp [go_sem]
  have q1 : w0.cell? ⟨w.heap.size, 1, none⟩ = some (.int .i64 hi) := by rw [hc0 _ _ (by simp; omega)]; simp [go_sem]
  go_wp2_with (fail)
  refine (udivide_any _ _ _ _).mono ?_
  rintro e w1 ⟨rfl, hb⟩
  obtain ⟨hc, hf⟩ := bcell hb
  have hz : w.heap.size + 1 < w1.heap.size := Nat.lt_of_lt_of_le hz0 (by simpa using hb.size)
  have hB : Below w.heap.size w w1 := hB0.trans ((((Below.refl _ _).setCell (by simp) _).setCell (by simp) _).trans (hb.mono (by simp; omega)))
  by_cases c1 : uf (wrap64 (oHi lo hi)) (wrap64 (-n)) = 0
  · have k1 : (uf (wrap64 (oHi lo hi)) (wrap64 (-n)) != 0) = false := by simp [c1]
    have C1 := Lib.hid c1
    clear c1
    by_cases c2 : uq (wrap64 (oLo lo)) (wrap64 (oHi lo hi)) (wrap64 (-n)) < 0
    · have k2 : decide (uq (wrap64 (oLo lo)) (wrap64 (oHi lo hi)) (wrap64 (-n)) < 0) = true := decide_eq_true c2
      go_wp2
      go_returns
      have n0 : hi < 0 := by omega
      have n1 : n < 0 := by omega
      have n2 : uq (wrap64 (oLo lo)) (wrap64 (oHi lo hi)) (wrap64 (-n)) < 0 := by first | assumption | omega | (rw [C3.out]; omega)
      exact ⟨by simp [dV, dQ, dR, dF, C1.out, n2, n0, n1], by go_grown⟩
    · have k2 : decide (uq (wrap64 (oLo lo)) (wrap64 (oHi lo hi)) (wrap64 (-n)) < 0) = false := decide_eq_false c2
      go_wp2
      go_returns
      have n0 : hi < 0 := by omega
      have n1 : n < 0 := by omega
      have n2 : ¬ uq (wrap64 (oLo lo)) (wrap64 (oHi lo hi)) (wrap64 (-n)) < 0 := by omega
      exact ⟨by simp [dV, dQ, dR, dF, C1.out, n2, n0, n1], by go_grown⟩
  · have k1 : (uf (wrap64 (oHi lo hi)) (wrap64 (-n)) != 0) = true := by simp [c1]
    have e7 : uf (wrap64 (oHi lo hi)) (wrap64 (-n)) = 7 := uf_7 c1
    have E7 := Lib.hid e7
    clear e7
    go_wp2
    go_returns
    exact ⟨by simp [dV, dQ, dR, dF, E7.out], by go_grown⟩
theorem divide_any (lo hi n : Int) (w : World) :
    Calls Try.prog 40 #[.agg #[.int .i64 lo, .int .i64 hi], .int .i64 n] w fun e w' => e = .returned (dV hi n (uq (aLo lo hi) (aHi lo hi) (aN n)) (ur (aLo lo hi) (aHi lo hi) (aN n)) (uf (aHi lo hi) (aN n))) ∧ Below w.heap.size w w' := by
  by_cases h0 : hi < 0 <;> by_cases h1 : n < 0
  · exact divide_nn lo hi n w h0 h1
  · exact divide_np lo hi n w h0 h1
  · exact divide_pn lo hi n w h0 h1
  · exact divide_pp lo hi n w h0 h1
end Go.Proofs.Ytfifbkcgaohhbaa
