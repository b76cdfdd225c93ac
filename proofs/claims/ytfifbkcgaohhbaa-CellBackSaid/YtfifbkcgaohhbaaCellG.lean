import Derived.Test.YtfifbkcgaohhbaaCellF
import Derived.StillTailTactics
import Derived.Deep.RegionHeld3
import Derived.Deep.RegionWith
namespace Go.Proofs.Ytfifbkcgaohhbaa
open Go.RowKit
set_option linter.unusedVariables false
set_option linter.unusedSimpArgs false
def szU (n : Int) : Int := if n < 0 then IntKind.u64.wrap (-IntKind.u64.wrap n) else IntKind.u64.wrap n
theorem size_any (n : Int) (w : World) :
    Calls Try.prog 42 #[.int .i64 n] w fun e w' => e = .returned (.int .u64 (szU n)) ∧ w' = w := by
  unfold szU
  by_cases h : n < 0
  · rw [if_pos h]
    go_enter Try.func42, Try.ntmps42
    go_wp2
    go_returns
    exact ⟨rfl, rfl⟩
  · rw [if_neg h]
    go_enter Try.func42, Try.ntmps42
    go_wp2
    go_returns
    exact ⟨rfl, rfl⟩
def lsLo (lo : Int) : Int := IntKind.u64.wrap (-lo)
def lsHi (lo hi : Int) : Int := if lo = 0 then IntKind.u64.wrap (bits BinOp.xor IntKind.u64 IntKind.u64.max hi + 1) else bits BinOp.xor IntKind.u64 IntKind.u64.max hi
set_option maxHeartbeats 400000 in
theorem less_any (lo hi : Int) (w : World) :
    Calls Try.prog 41 #[.agg #[.int .u64 lo, .int .u64 hi]] w fun e w' => e = .returned (.agg #[.int .u64 (lsLo lo), .int .u64 (lsHi lo hi)]) ∧ Below w.heap.size w w' := by
  by_cases h : lo = 0
  · subst h
    go_enter Try.func41, Try.ntmps41
    go_wp2
    go_returns
    exact ⟨rfl, by go_grown⟩
  · have h0 : (lo == 0) = false := beq_eq_false_iff_ne.2 h
    have e1 : lsHi lo hi = bits BinOp.xor IntKind.u64 IntKind.u64.max hi := if_neg h
    have E1 := Lib.hid e1
    clear e1
    go_enter Try.func41, Try.ntmps41
    go_wp2
    go_returns
    exact ⟨by rw [E1.out]; rfl, by go_grown⟩
theorem rudiv_any (lo hi n : Int) (w : World) (hl : isU lo) (hh : isU hi) (hn : isU n) :
    Calls Try.prog 34 #[.agg #[.int .u64 lo, .int .u64 hi], .int .u64 n] w fun e w' => e = .returned (.tuple #[.int .u64 (if hi < n then quoW hi lo n else 0), .int .u64 (if hi < n then remW hi lo n else 0), .bool (decide (hi < n))]) ∧ Below w.heap.size w w' := by
  by_cases h : hi < n
  · rw [if_pos h, if_pos h, decide_eq_true h]; exact rudivide_yes lo hi n w h hn hl hh.1
  · rw [if_neg h, if_neg h, decide_eq_false h]; exact rudivide_no lo hi n w (by omega) hn.1
def vQ (lo hi n : Int) : Int := if hi < n then quoW hi lo n else 0
def vR (lo hi n : Int) : Int := if hi < n then remW hi lo n else 0
def vOk (hi n : Int) : Bool := decide (hi < n)
theorem rudiv_is (lo hi n : Int) (w : World) (hl : isU lo) (hh : isU hi) (hn : isU n) :
    Calls Try.prog 34 #[.agg #[.int .u64 lo, .int .u64 hi], .int .u64 n] w fun e w' => e = .returned (.tuple #[.int .u64 (vQ lo hi n), .int .u64 (vR lo hi n), .bool (vOk hi n)]) ∧ Below w.heap.size w w' := rudiv_any lo hi n w hl hh hn
theorem szU_is (n : Int) : isU (szU n) := by
  unfold szU
  split <;> exact isU_wrap _
/-! DIVIDE -/
/-- the reference's answer, out of the division without signs -/
def eF : Value := .tuple #[.int .i64 0, .int .i64 0, .bool false]
def eT (q r : Int) : Value := .tuple #[.int .i64 q, .int .i64 r, .bool true]
def eV (b : Bool) (n : Int) (down : Bool) (q r : Int) (ok : Bool) : Value :=
  if ok = false then eF
  else if b = decide (n < 0) then (if 9223372036854775808 ≤ q then eF else eT (wrap64 q) (wrap64 (if b = true then IntKind.u64.wrap (-r) else r)))
  else if down = true ∧ ¬ r = 0 then (if 9223372036854775808 ≤ q then eF else eT (wrap64 (IntKind.u64.wrap (-IntKind.u64.wrap (q + 1)))) (wrap64 (if n < 0 then IntKind.u64.wrap (-IntKind.u64.wrap (szU n - r)) else IntKind.u64.wrap (szU n - r))))
  else if 9223372036854775808 < q then eF else eT (wrap64 (IntKind.u64.wrap (-q))) (wrap64 (if b = true then IntKind.u64.wrap (-r) else r))
theorem lsLo_is (lo : Int) : isU (lsLo lo) := isU_wrap _
theorem xorU_is (hi : Int) : isU (bits BinOp.xor IntKind.u64 IntKind.u64.max hi) := isU_wrap _
theorem lsHi_is {lo hi : Int} (h : isU hi) : isU (lsHi lo hi) := by
  unfold lsHi
  split
  · exact isU_wrap _
  · exact xorU_is _
set_option maxHeartbeats 2000000 in
theorem rdivide_pos (lo hi n : Int) (down : Bool) (w : World) (hl : isU lo) (hh : isU hi) (hb : hi < 9223372036854775808) :
    Calls Try.prog 36 #[.agg #[.int .u64 lo, .int .u64 hi], .int .i64 n, .bool down] w fun e w' => e = .returned (eV false n down (vQ lo hi (szU n)) (vR lo hi (szU n)) (vOk hi (szU n))) ∧ Below w.heap.size w w' := by
  have gb : decide (9223372036854775808 ≤ hi) = false := decide_eq_false (by omega)
  go_enter Try.func36, Try.ntmps36
  go_wp2_with (fail)
  go_region_held3 (fun w' => w'.cell? ⟨w.heap.size + 1, 0, none⟩ = some (.int .u64 lo) ∧ w'.cell? ⟨w.heap.size + 1, 1, none⟩ = some (.int .u64 hi)) ((simp [go_sem, *]))
    (first
      | (go_at_call 42; refine (size_any _ _).mono ?_; rintro e w' ⟨rfl, rfl⟩)
      | (go_at_call 34; refine (rudiv_is _ _ _ _ hl hh (szU_is _)).mono ?_; rintro e w1 ⟨rfl, hb1⟩; have q0 := hb1.cell (p := ⟨w.heap.size + 1, 0, none⟩) (by first | (simp; done) | (simp; omega)); have q1 := hb1.cell (p := ⟨w.heap.size + 1, 1, none⟩) (by first | (simp; done) | (simp; omega))))
  have hB : Below w.heap.size w w1 := ((((Below.refl _ _).alloc (Nat.le_refl _) _).alloc (by simp) _).drew).trans (hb1.mono (by simp; omega))
  clear q0 q1
  cases c1 : vOk hi (szU n)
  · have n1 := Lib.hid c1
    go_wp2
    go_returns
    exact ⟨by simp [eV, eF, n1.out], hB⟩
  · have n1 := Lib.hid c1
    by_cases c2 : ¬ n < 0
    · have k2 : decide (n < 0) = false := decide_eq_false c2
      have n2 := Lib.hid c2
      by_cases c3 : 9223372036854775808 ≤ vQ lo hi (szU n)
      · have k3 : decide (9223372036854775808 ≤ vQ lo hi (szU n)) = true := decide_eq_true c3
        have n3 := Lib.hid c3
        go_wp2
        go_returns
        exact ⟨by simp [eV, eF, eT, n1.out, n2.out, Int.not_lt.2 n2.out, n3.out], hB⟩
      · have k3 : decide (9223372036854775808 ≤ vQ lo hi (szU n)) = false := decide_eq_false c3
        have n3 := Lib.hid c3
        go_wp2
        go_returns
        exact ⟨by simp [eV, eF, eT, n1.out, n2.out, Int.not_lt.2 n2.out, n3.out], hB⟩
    · have c2' : n < 0 := by omega
      have k2 : decide (n < 0) = true := decide_eq_true c2'
      have n2 := Lib.hid c2'
      clear c2
      by_cases c4 : down = true ∧ ¬ vR lo hi (szU n) = 0
      · obtain ⟨d1, d2⟩ := c4
        subst d1
        have k4 : (vR lo hi (szU n) != 0) = true := by simp [d2]
        have n4 := Lib.hid d2
        clear d2
        by_cases c3 : 9223372036854775808 ≤ vQ lo hi (szU n)
        · have k3 : decide (9223372036854775808 ≤ vQ lo hi (szU n)) = true := decide_eq_true c3
          have n3 := Lib.hid c3
          go_wp2
          go_returns
          exact ⟨by simp [eV, eF, eT, n1.out, n2.out, n3.out, n4.out], hB⟩
        · have k3 : decide (9223372036854775808 ≤ vQ lo hi (szU n)) = false := decide_eq_false c3
          have n3 := Lib.hid c3
          go_wp2_with (go_at_call 42; refine (size_any _ _).mono ?_; rintro e w' ⟨rfl, rfl⟩)
          go_returns
          exact ⟨by simp [eV, eF, eT, n1.out, n2.out, n3.out, n4.out], hB⟩
      · have n4 := Lib.hid c4
        have k4 : (down && (vR lo hi (szU n) != 0)) = false := by
          cases hd : down
          · rfl
          · have : vR lo hi (szU n) = 0 := by
              by_cases z : vR lo hi (szU n) = 0
              · exact z
              · exact absurd ⟨hd, z⟩ c4
            simp [this]
        clear c4
        by_cases c3 : 9223372036854775808 < vQ lo hi (szU n)
        · have k3 : decide (9223372036854775808 < vQ lo hi (szU n)) = true := decide_eq_true c3
          have n3 := Lib.hid c3
          cases hd : down
          · subst hd
            go_wp2
            go_returns
            exact ⟨by simp [eV, eF, eT, n1.out, n2.out, n3.out], hB⟩
          · subst hd
            have z0 : vR lo hi (szU n) = 0 := by simpa using k4
            have k5 : (vR lo hi (szU n) != 0) = false := by simp [z0]
            have Z := Lib.hid z0
            clear z0 k4
            go_wp2
            go_returns
            exact ⟨by simp [eV, eF, eT, n1.out, n2.out, n3.out, Z.out], hB⟩
        · have k3 : decide (9223372036854775808 < vQ lo hi (szU n)) = false := decide_eq_false c3
          have n3 := Lib.hid c3
          cases hd : down
          · subst hd
            go_wp2
            go_returns
            exact ⟨by simp [eV, eF, eT, n1.out, n2.out, n3.out], hB⟩
          · subst hd
            have z0 : vR lo hi (szU n) = 0 := by simpa using k4
            have k5 : (vR lo hi (szU n) != 0) = false := by simp [z0]
            have Z := Lib.hid z0
            clear z0 k4
            go_wp2
            go_returns
            exact ⟨by simp [eV, eF, eT, n1.out, n2.out, n3.out, Z.out], hB⟩
set_option maxHeartbeats 2000000 in
theorem rdivide_neg (lo hi n : Int) (down : Bool) (w : World) (hl : isU lo) (hh : isU hi) (hb : ¬ hi < 9223372036854775808) :
    Calls Try.prog 36 #[.agg #[.int .u64 lo, .int .u64 hi], .int .i64 n, .bool down] w fun e w' => e = .returned (eV true n down (vQ (lsLo lo) (lsHi lo hi) (szU n)) (vR (lsLo lo) (lsHi lo hi) (szU n)) (vOk (lsHi lo hi) (szU n))) ∧ Below w.heap.size w w' := by
  have gb : decide (9223372036854775808 ≤ hi) = true := decide_eq_true (by omega)
  go_enter Try.func36, Try.ntmps36
  go_wp2_with (fail)
  refine (less_any _ _ _).mono ?_
  rintro e w0 ⟨rfl, hb0⟩
  obtain ⟨hc0, hf0⟩ := bcell hb0
  have hz0 : w.heap.size + 1 < w0.heap.size := bsize hb0 (by simp)
  have hB0 : Below w.heap.size w w0 := (((Below.refl _ _).alloc (Nat.le_refl _) _).alloc (by simp) _).trans (hb0.mono (by simp; omega))
  have q00 : w0.cell? ⟨w.heap.size + 1, 0, none⟩ = some (.int .u64 lo) := by rw [hc0 _ _ (by simp)]; simp [go_sem]
  have q01 : w0.cell? ⟨w.heap.size + 1, 1, none⟩ = some (.int .u64 hi) := by rw [hc0 _ _ (by simp)]; simp [go_sem]
  have q02 : w0.frozen? ⟨w.heap.size + 1, 0, none⟩ = false := by rw [hf0 _ _ (by simp)]; simp [go_sem]
  have q03 : w0.frozen? ⟨w.heap.size + 1, 1, none⟩ = false := by rw [hf0 _ _ (by simp)]; simp [go_sem]
  clear hc0 hf0
  go_wp2_with (fail)
  go_region_held3 (fun w' => w'.cell? ⟨w.heap.size + 1, 0, none⟩ = some (.int .u64 (lsLo lo)) ∧ w'.cell? ⟨w.heap.size + 1, 1, none⟩ = some (.int .u64 (lsHi lo hi))) ((simp [go_sem, *]))
    (first
      | (go_at_call 42; refine (size_any _ _).mono ?_; rintro e w' ⟨rfl, rfl⟩)
      | (go_at_call 34; refine (rudiv_is _ _ _ _ (lsLo_is _) (lsHi_is hh) (szU_is _)).mono ?_; rintro e w1 ⟨rfl, hb1⟩; have q0 := hb1.cell (p := ⟨w.heap.size + 1, 0, none⟩) (by first | (simp; done) | (simp; omega)); have q1 := hb1.cell (p := ⟨w.heap.size + 1, 1, none⟩) (by first | (simp; done) | (simp; omega))))
  have hB : Below w.heap.size w w1 := (((hB0.setCell (by simp) _).setCell (by simp) _).drew).trans (hb1.mono (by simp; omega))
  clear q00 q01 q02 q03
  clear q0 q1
  cases c1 : vOk (lsHi lo hi) (szU n)
  · have n1 := Lib.hid c1
    go_wp2
    go_returns
    exact ⟨by simp [eV, eF, n1.out], hB⟩
  · have n1 := Lib.hid c1
    by_cases c2 : n < 0
    · have k2 : decide (n < 0) = true := decide_eq_true c2
      have n2 := Lib.hid c2
      by_cases c3 : 9223372036854775808 ≤ vQ (lsLo lo) (lsHi lo hi) (szU n)
      · have k3 : decide (9223372036854775808 ≤ vQ (lsLo lo) (lsHi lo hi) (szU n)) = true := decide_eq_true c3
        have n3 := Lib.hid c3
        go_wp2
        go_returns
        exact ⟨by simp [eV, eF, eT, n1.out, n2.out, n3.out], hB⟩
      · have k3 : decide (9223372036854775808 ≤ vQ (lsLo lo) (lsHi lo hi) (szU n)) = false := decide_eq_false c3
        have n3 := Lib.hid c3
        go_wp2
        go_returns
        exact ⟨by simp [eV, eF, eT, n1.out, n2.out, n3.out], hB⟩
    · have c2' : ¬ n < 0 := by omega
      have k2 : decide (n < 0) = false := decide_eq_false c2'
      have n2 := Lib.hid c2'
      clear c2
      by_cases c4 : down = true ∧ ¬ vR (lsLo lo) (lsHi lo hi) (szU n) = 0
      · obtain ⟨d1, d2⟩ := c4
        subst d1
        have k4 : (vR (lsLo lo) (lsHi lo hi) (szU n) != 0) = true := by simp [d2]
        have n4 := Lib.hid d2
        clear d2
        by_cases c3 : 9223372036854775808 ≤ vQ (lsLo lo) (lsHi lo hi) (szU n)
        · have k3 : decide (9223372036854775808 ≤ vQ (lsLo lo) (lsHi lo hi) (szU n)) = true := decide_eq_true c3
          have n3 := Lib.hid c3
          go_wp2
          go_returns
          exact ⟨by simp [eV, eF, eT, n1.out, n2.out, Int.not_lt.2 n2.out, n3.out, n4.out], hB⟩
        · have k3 : decide (9223372036854775808 ≤ vQ (lsLo lo) (lsHi lo hi) (szU n)) = false := decide_eq_false c3
          have n3 := Lib.hid c3
          go_wp2_with (go_at_call 42; refine (size_any _ _).mono ?_; rintro e w' ⟨rfl, rfl⟩)
          go_returns
          exact ⟨by simp [eV, eF, eT, n1.out, n2.out, Int.not_lt.2 n2.out, n3.out, n4.out], hB⟩
      · have n4 := Lib.hid c4
        have k4 : (down && (vR (lsLo lo) (lsHi lo hi) (szU n) != 0)) = false := by
          cases hd : down
          · rfl
          · have : vR (lsLo lo) (lsHi lo hi) (szU n) = 0 := by
              by_cases z : vR (lsLo lo) (lsHi lo hi) (szU n) = 0
              · exact z
              · exact absurd ⟨hd, z⟩ c4
            simp [this]
        clear c4
        by_cases c3 : 9223372036854775808 < vQ (lsLo lo) (lsHi lo hi) (szU n)
        · have k3 : decide (9223372036854775808 < vQ (lsLo lo) (lsHi lo hi) (szU n)) = true := decide_eq_true c3
          have n3 := Lib.hid c3
          cases hd : down
          · subst hd
            go_wp2
            go_returns
            exact ⟨by simp [eV, eF, eT, n1.out, n2.out, Int.not_lt.2 n2.out, n3.out], hB⟩
          · subst hd
            have z0 : vR (lsLo lo) (lsHi lo hi) (szU n) = 0 := by simpa using k4
            have k5 : (vR (lsLo lo) (lsHi lo hi) (szU n) != 0) = false := by simp [z0]
            have Z := Lib.hid z0
            clear z0 k4
            go_wp2
            go_returns
            exact ⟨by simp [eV, eF, eT, n1.out, n2.out, Int.not_lt.2 n2.out, n3.out, Z.out], hB⟩
        · have k3 : decide (9223372036854775808 < vQ (lsLo lo) (lsHi lo hi) (szU n)) = false := decide_eq_false c3
          have n3 := Lib.hid c3
          cases hd : down
          · subst hd
            go_wp2
            go_returns
            exact ⟨by simp [eV, eF, eT, n1.out, n2.out, Int.not_lt.2 n2.out, n3.out], hB⟩
          · subst hd
            have z0 : vR (lsLo lo) (lsHi lo hi) (szU n) = 0 := by simpa using k4
            have k5 : (vR (lsLo lo) (lsHi lo hi) (szU n) != 0) = false := by simp [z0]
            have Z := Lib.hid z0
            clear z0 k4
            go_wp2
            go_returns
            exact ⟨by simp [eV, eF, eT, n1.out, n2.out, Int.not_lt.2 n2.out, n3.out, Z.out], hB⟩
end Go.Proofs.Ytfifbkcgaohhbaa
