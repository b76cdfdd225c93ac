import Derived.Test.YtfifbkcgaohhbaaCellG
namespace Go.Proofs.Ytfifbkcgaohhbaa
open Go.RowKit
set_option linter.unusedVariables false
set_option linter.unusedSimpArgs false
/-! chapter 1's examples -/
theorem ex_floored (w : World) : Calls Try.prog 11 #[.int .i64 (-7), .int .i64 2] w fun e w' => e = .returned (.tuple #[.int .i64 (-4), .int .i64 1, .int .i64 0]) ∧ ∃ n, w' = w.drewN n := by
  have e1 : zQ (-7) 2 = -4 := by decide +kernel
  have e2 : zR (-7) 2 = 1 := by decide +kernel
  have e3 : yF 2 = 0 := by decide +kernel
  have h := floored_any (-7) 2 w
  rw [e1, e2, e3] at h
  exact h
theorem ex_sdivide (w : World) : Calls Try.prog 37 #[.agg #[.int .i64 (-7), .int .i64 (-1)], .int .i64 2] w fun e w' => e = .returned (.tuple #[.int .i64 (-3), .int .i64 (-1), .int .i64 0]) ∧ Below w.heap.size w w' := by
  have e1 : sQ (-7) (-1) 2 = -3 := by decide +kernel
  have e2 : sR (-7) (-1) 2 = -1 := by decide +kernel
  have e3 : sF (-7) (-1) 2 = 0 := by decide +kernel
  have h := sdivide_any (-7) (-1) 2 w
  rw [e1, e2, e3] at h
  exact h
theorem ex_times (w : World) : Calls Try.prog 16 #[.int .i64 (-1), .int .i64 5] w fun e w' => e = .returned (.agg #[.int .i64 (-5), .int .i64 (-1)]) ∧ Below w.heap.size w w' := by
  have e1 : wrap64 (lo64 (IntKind.u64.wrap (-1)) (IntKind.u64.wrap 5)) = -5 := by decide +kernel
  have e2 : tHi (-1) 5 = -1 := by decide +kernel
  have h := times (-1) 5 w
  rw [e1, e2] at h
  exact h
theorem ex_bytes (w : World) : Calls Try.prog 29 #[.int .i64 258] w fun e w' => e = .returned (.agg #[.int .u8 2, .int .u8 1, .int .u8 0, .int .u8 0, .int .u8 0, .int .u8 0, .int .u8 0, .int .u8 0]) ∧ Below w.heap.size w w' := by
  have e1 : bytesV 258 = .agg #[.int .u8 2, .int .u8 1, .int .u8 0, .int .u8 0, .int .u8 0, .int .u8 0, .int .u8 0, .int .u8 0] := by rfl
  have h := bytes_any 258 w
  rw [e1] at h
  exact h
theorem ex_left (w : World) : Calls Try.prog 21 #[.int .i64 1, .int .i64 63] w fun e w' => e = .returned (.int .i64 (-9223372036854775808)) ∧ w' = w := by
  have e1 : shl 1 63 = -9223372036854775808 := by decide +kernel
  have h := left_any 1 63 w
  rw [e1] at h
  exact h
theorem eqArr (x0 x1 x2 x3 x4 x5 x6 x7 : Int) (w : World) : (Op.equalIn 10000 42 (arr8 x0 x1 x2 x3 x4 x5 x6 x7) (arr8 x0 x1 x2 x3 x4 x5 x6 x7)).run Try.prog w = .ok true w := by
  have u3 := Try.underlying5
  have a3 := Try.isAgg5
  have z3 := Try.sizeOf5
  unfold arr8
  rw [show (10000 : Nat) = 9999 + 1 from rfl, Op.equalIn]
  simp only [Sem.run_bind, run_underlying Try.underlying42, Result.andThen_ok]
  simp only [Std.Legacy.Range.forIn_eq_forIn_range', Std.Legacy.Range.size, Nat.sub_zero, Nat.add_sub_cancel, Nat.div_one, List.range'_succ, List.range'_zero, List.forIn_cons, List.forIn_nil]
  go_simp
set_option maxHeartbeats 1000000 in
theorem shown_any (w : World) : Calls Try.prog 10 #[] w fun e w' => e = .returned (.bool true) ∧ Below w.heap.size w w' := by
  go_enter Try.func10, Try.ntmps10
  go_wp2_with (fail)
  refine (ex_floored _).mono ?_
  rintro e w0 ⟨rfl, m, rfl⟩
  go_wp2_with (fail)
  refine (ex_sdivide _).mono ?_
  rintro e w1 ⟨rfl, hb1⟩
  have hB1 : Below w.heap.size w w1 := (below_drewN (Below.refl _ _) m).trans hb1
  go_wp2_with (fail)
  refine (ex_times _).mono ?_
  rintro e w2 ⟨rfl, hb2⟩
  have hB2 : Below w.heap.size w w2 := hB1.trans (hb2.mono hB1.size)
  go_wp2_with (fail)
  refine (ex_bytes _).mono ?_
  rintro e w3 ⟨rfl, hb3⟩
  have hB3 : Below w.heap.size w w3 := (hB2.alloc hB2.size _).trans (hb3.mono (by have := hB2.size; simp; omega))
  have c0 : w3.cell? ⟨w2.heap.size, 0, none⟩ = some (.int .i64 (-5)) := by rw [hb3.cell (p := ⟨w2.heap.size, 0, none⟩) (by simp)]; simp [go_sem]
  have c1 : w3.cell? ⟨w2.heap.size, 1, none⟩ = some (.int .i64 (-1)) := by rw [hb3.cell (p := ⟨w2.heap.size, 1, none⟩) (by simp)]; simp [go_sem]
  have z3 : w2.heap.size < w3.heap.size := bsize hb3 (by simp)
  have hq := eqArr 2 1 0 0 0 0 0 0
  unfold arr8 at hq
  go_wp2_with (first
    | (go_at_call 21; refine (ex_left _).mono ?_; rintro e w' ⟨rfl, rfl⟩)
    | (go_at_call 27; refine (flag_any true _).mono ?_; rintro e w' ⟨rfl, rfl⟩))
  go_returns
  exact ⟨rfl, hB3.alloc hB3.size _⟩
/-- 'divided': is an answer the document's? -/
def dvd (q r e x y : Int) (ok : Bool) : Bool := if ok = false then (e == 7) && (q == 0) && (r == 0) else (e == 0) && (q == x) && (r == y)
theorem divided_any (q r e x y : Int) (ok : Bool) (w : World) : Calls Try.prog 15 #[.int .i64 q, .int .i64 r, .int .i64 e, .int .i64 x, .int .i64 y, .bool ok] w fun e' w' => e' = .returned (.bool (dvd q r e x y ok)) ∧ w' = w := by
  unfold dvd
  cases ok
  · rw [if_pos rfl]
    cases h1 : e == 7
    · go_enter Try.func15, Try.ntmps15
      go_wp2
      go_returns
      exact ⟨rfl, rfl⟩
    · cases h2 : q == 0
      · go_enter Try.func15, Try.ntmps15
        go_wp2
        go_returns
        exact ⟨rfl, rfl⟩
      · go_enter Try.func15, Try.ntmps15
        go_wp2
        go_returns
        exact ⟨rfl, rfl⟩
  · rw [if_neg (by decide)]
    cases h1 : e == 0
    · go_enter Try.func15, Try.ntmps15
      go_wp2
      go_returns
      exact ⟨rfl, rfl⟩
    · cases h2 : q == x
      · go_enter Try.func15, Try.ntmps15
        go_wp2
        go_returns
        exact ⟨rfl, rfl⟩
      · go_enter Try.func15, Try.ntmps15
        go_wp2
        go_returns
        exact ⟨rfl, rfl⟩
theorem wide_any (lo hi : Int) (w : World) : Calls Try.prog 17 #[.agg #[.int .u64 lo, .int .u64 hi]] w fun e w' => e = .returned (.agg #[.int .i64 (wrap64 lo), .int .i64 (wrap64 hi)]) ∧ Below w.heap.size w w' := by
  go_enter Try.func17, Try.ntmps17
  go_wp2
  go_returns
  exact ⟨rfl, by go_grown⟩
end Go.Proofs.Ytfifbkcgaohhbaa
