import Derived.Test.YtfifbkcgaohhbaaCellN
namespace Go.Proofs.Ytfifbkcgaohhbaa
open Go.RowKit
set_option linter.unusedVariables false
set_option linter.unusedSimpArgs false
/-! CellHalves -/
theorem U_wrap64 (x : Int) : IntKind.u64.wrap (wrap64 x) = IntKind.u64.wrap x := by
  simp only [IntKind.wrap_u64]; unfold wrap64; omega
theorem xorU (u : Int) (h : isU u) : bits BinOp.xor IntKind.u64 IntKind.u64.max u = 18446744073709551615 - u := by
  obtain ⟨h0, h1⟩ := h
  obtain ⟨n, rfl⟩ := Int.eq_ofNat_of_zero_le h0
  have e : bits BinOp.xor IntKind.u64 IntKind.u64.max n = IntKind.u64.wrap ((BitVec.ofInt 64 IntKind.u64.max ^^^ BitVec.ofInt 64 n).toNat : Int) := rfl
  rw [e, show BitVec.ofInt 64 IntKind.u64.max = BitVec.allOnes 64 by decide, BitVec.allOnes_xor, BitVec.toNat_not, ofInt_u64 n (by omega), IntKind.wrap_u64]
  omega
/-- what is handed to the division without signs is what the reference hands to its own -/
theorem hand_hi (lo hi : Int) (h : isI hi) : IntKind.u64.wrap (aHi lo hi) = if hi < 0 then lsHi (IntKind.u64.wrap lo) (IntKind.u64.wrap hi) else IntKind.u64.wrap hi := by
  unfold aHi
  split
  · unfold lsHi
    rw [U_wrap64, xorU _ (isU_wrap hi)]
    unfold oHi oBor
    split
    · simp only [IntKind.wrap_u64]; omega
    · simp only [IntKind.wrap_u64]; omega
  · rfl
theorem hand_lo (lo hi : Int) : IntKind.u64.wrap (aLo lo hi) = if hi < 0 then lsLo (IntKind.u64.wrap lo) else IntKind.u64.wrap lo := by
  unfold aLo
  split
  · unfold lsLo
    rw [U_wrap64]
    unfold oLo
    simp only [IntKind.wrap_u64]; omega
  · rfl
theorem hand_n (n : Int) : IntKind.u64.wrap (aN n) = szU n := by
  unfold aN szU
  split
  · rw [U_wrap64]; simp only [IntKind.wrap_u64]; omega
  · rfl
theorem wrap64_ite (c : Prop) [Decidable c] (x : Int) : (if c then wrap64 x else 0) = wrap64 (if c then x else 0) := by
  split
  · rfl
  · unfold wrap64; omega
theorem rudiv_hand (lo hi n : Int) (hh : isI hi) :
    uf (aHi lo hi) (aN n) = (if vOk (if hi < 0 then lsHi (IntKind.u64.wrap lo) (IntKind.u64.wrap hi) else IntKind.u64.wrap hi) (szU n) = true then 0 else 7) ∧
    uq (aLo lo hi) (aHi lo hi) (aN n) = wrap64 (vQ (if hi < 0 then lsLo (IntKind.u64.wrap lo) else IntKind.u64.wrap lo) (if hi < 0 then lsHi (IntKind.u64.wrap lo) (IntKind.u64.wrap hi) else IntKind.u64.wrap hi) (szU n)) ∧
    ur (aLo lo hi) (aHi lo hi) (aN n) = wrap64 (vR (if hi < 0 then lsLo (IntKind.u64.wrap lo) else IntKind.u64.wrap lo) (if hi < 0 then lsHi (IntKind.u64.wrap lo) (IntKind.u64.wrap hi) else IntKind.u64.wrap hi) (szU n)) := by
  unfold uf uq ur vQ vR vOk
  rw [hand_hi lo hi hh, hand_lo lo hi, hand_n n, wrap64_ite, wrap64_ite]
  exact ⟨by simp, rfl, rfl⟩
theorem quo_bounds {hi lo n : Int} (h0 : 0 ≤ hi) (h1 : hi < n) (hl : isU lo) : 0 ≤ quoW hi lo n ∧ quoW hi lo n ≤ 18446744073709551615 ∧ 0 ≤ remW hi lo n ∧ remW hi lo n < n := by
  obtain ⟨l0, l1⟩ := hl
  have hn : 0 < n := by omega
  refine ⟨Int.ediv_nonneg (by omega) (by omega), ?_, Int.emod_nonneg _ (by omega), Int.emod_lt_of_pos _ hn⟩
  have : quoW hi lo n < 18446744073709551616 := Int.ediv_lt_of_lt_mul hn (by omega)
  omega
theorem v_bounds {lo hi n : Int} (hl : isU lo) (hh : isU hi) : 0 ≤ vQ lo hi n ∧ vQ lo hi n ≤ 18446744073709551615 ∧ 0 ≤ vR lo hi n ∧ (vOk hi n = true → vR lo hi n < n) := by
  unfold vQ vR vOk
  by_cases h : hi < n
  · obtain ⟨a, b, c, d⟩ := quo_bounds (lo := lo) hh.1 h hl
    rw [if_pos h, if_pos h]
    exact ⟨a, b, c, fun _ => d⟩
  · rw [if_neg h, if_neg h]
    exact ⟨by omega, by omega, by omega, fun k => absurd (of_decide_eq_true k) h⟩
/-- the reference's three answers -/
def eOk (b : Bool) (n : Int) (down : Bool) (q r : Int) (ok : Bool) : Bool :=
  ok && (if b = decide (n < 0) then decide (q < 9223372036854775808) else if down = true ∧ ¬ r = 0 then decide (q < 9223372036854775808) else decide (q ≤ 9223372036854775808))
def eQ (b : Bool) (n : Int) (down : Bool) (q r : Int) (ok : Bool) : Int :=
  if eOk b n down q r ok = true then (if b = decide (n < 0) then wrap64 q else if down = true ∧ ¬ r = 0 then wrap64 (IntKind.u64.wrap (-IntKind.u64.wrap (q + 1))) else wrap64 (IntKind.u64.wrap (-q))) else 0
def eR (b : Bool) (n : Int) (down : Bool) (q r : Int) (ok : Bool) : Int :=
  if eOk b n down q r ok = true then (if b = decide (n < 0) then wrap64 (if b = true then IntKind.u64.wrap (-r) else r) else if down = true ∧ ¬ r = 0 then wrap64 (if n < 0 then IntKind.u64.wrap (-IntKind.u64.wrap (szU n - r)) else IntKind.u64.wrap (szU n - r)) else wrap64 (if b = true then IntKind.u64.wrap (-r) else r)) else 0
theorem eV_is (b : Bool) (n : Int) (down : Bool) (q r : Int) (ok : Bool) : eV b n down q r ok = .tuple #[.int .i64 (eQ b n down q r ok), .int .i64 (eR b n down q r ok), .bool (eOk b n down q r ok)] := by
  unfold eV eQ eR eOk eF eT
  cases ok
  · simp
  · by_cases h1 : b = decide (n < 0)
    · by_cases h2 : 9223372036854775808 ≤ q
      · have h3 : ¬ q < 9223372036854775808 := by omega
        simp [h1, h2, h3]
      · have h3 : q < 9223372036854775808 := by omega
        simp [h1, h2, h3]
    · by_cases h4 : down = true ∧ ¬ r = 0
      · by_cases h2 : 9223372036854775808 ≤ q
        · have h3 : ¬ q < 9223372036854775808 := by omega
          simp [h1, h2, h3, h4]
        · have h3 : q < 9223372036854775808 := by omega
          simp [h1, h2, h3, h4]
      · by_cases h2 : 9223372036854775808 < q
        · have h3 : ¬ q ≤ 9223372036854775808 := by omega
          simp only [h1, h2, h3, h4, if_true, if_false, decide_false, decide_true, Bool.and_false, Bool.false_eq_true, Bool.true_and]; simp [h1, h4]
        · have h3 : q ≤ 9223372036854775808 := by omega
          simp only [h1, h2, h3, h4, if_true, if_false, decide_false, decide_true, Bool.and_false, Bool.false_eq_true, Bool.true_and]; simp [h1, h4]
theorem below_is {hi : Int} (hh : isI hi) : decide (9223372036854775808 ≤ IntKind.u64.wrap hi) = decide (hi < 0) := by
  obtain ⟨h0, h1⟩ := hh
  rw [IntKind.wrap_u64]
  by_cases h : hi < 0
  · rw [decide_eq_true h]; exact decide_eq_true (by omega)
  · rw [decide_eq_false h]; exact decide_eq_false (by omega)
theorem half_s (hi n Q R f : Int) (ok : Bool) (hh : isI hi) (hn : isI n) (hf : f = if ok = true then 0 else 7) (q0 : 0 ≤ Q) (q1 : Q ≤ 18446744073709551615) (r0 : 0 ≤ R) (r1 : ok = true → R < szU n) :
    dvd (dQ hi n (wrap64 Q) f) (dR hi n (wrap64 Q) (wrap64 R) f) (dF hi n (wrap64 Q) f) (eQ (decide (hi < 0)) n false Q R ok) (eR (decide (hi < 0)) n false Q R ok) (eOk (decide (hi < 0)) n false Q R ok) = true := by
  obtain ⟨h0, h1⟩ := hh
  obtain ⟨n0, n1⟩ := hn
  have wq : wrap64 Q = if Q < 9223372036854775808 then Q else Q - 18446744073709551616 := by unfold wrap64; split <;> omega
  cases ok
  · simp [hf, dQ, dR, dF, dvd, eOk]
  · have r2 := r1 rfl
    simp only [if_true] at hf
    subst hf
    have ws : szU n = if n < 0 then -n else n := by unfold szU; simp only [IntKind.wrap_u64]; split <;> omega
    by_cases s0 : hi < 0 <;> by_cases s1 : n < 0 <;> simp only [s1, if_true, if_false] at ws <;> simp only [dQ, dR, dF, eQ, eR, eOk, dvd, s0, s1, wq, decide_true, decide_false, if_true, if_false, Bool.true_and, Bool.false_eq_true, false_and, reduceCtorEq]
    all_goals (rcases Int.lt_trichotomy Q 9223372036854775808 with hq | hq | hq)
    all_goals first
      | (have c1 : Q < 9223372036854775808 := by omega
         have c2 : ¬ Q < 0 := by omega
         have c3 : Q ≤ 9223372036854775808 := by omega
         simp only [c1, c2, c3, if_true, if_false, decide_true, decide_false, false_and, true_and, and_false, and_true, ne_eq, not_true, not_false_iff, reduceCtorEq]; (try simp); (try simp only [IntKind.wrap_u64]); (try unfold wrap64); (try omega); done)
      | (have c1 : ¬ Q < 9223372036854775808 := by omega
         have c2 : Q - 18446744073709551616 < 0 := by omega
         have c4 : Q - 18446744073709551616 = -9223372036854775808 := by omega
         have c3 : Q ≤ 9223372036854775808 := by omega
         simp only [c1, c4, c3, if_true, if_false, decide_true, decide_false, false_and, true_and, and_false, and_true, ne_eq, not_true, not_false_iff, reduceCtorEq]; (try simp); (try simp only [IntKind.wrap_u64]); (try unfold wrap64); (try omega); done)
      | (have c1 : ¬ Q < 9223372036854775808 := by omega
         have c2 : Q - 18446744073709551616 < 0 := by omega
         have c4 : ¬ Q - 18446744073709551616 = -9223372036854775808 := by omega
         have c3 : ¬ Q ≤ 9223372036854775808 := by omega
         simp only [c1, c2, c4, c3, if_true, if_false, decide_true, decide_false, false_and, true_and, and_false, and_true, ne_eq, not_true, not_false_iff, reduceCtorEq]; (try simp); (try simp only [IntKind.wrap_u64]); (try unfold wrap64); (try omega); done)
theorem half_f (hi n Q R f : Int) (ok : Bool) (q r F : Int) (hh : isI hi) (hn : isI n) (hf : f = if ok = true then 0 else 7) (q0 : 0 ≤ Q) (q1 : Q ≤ 18446744073709551615) (r0 : 0 ≤ R) (r1 : ok = true → R < szU n)
    (eq : q = dQ hi n (wrap64 Q) f) (er : r = dR hi n (wrap64 Q) (wrap64 R) f) (eF : F = dF hi n (wrap64 Q) f) :
    dvd (if F = 0 ∧ down r n = true then (if q = -9223372036854775808 then 0 else wrap64 (q - 1)) else q) (if F = 0 ∧ down r n = true then (if q = -9223372036854775808 then 0 else wrap64 (r + n)) else r)
      (if F = 0 then (if down r n = true then (if q = -9223372036854775808 then 7 else 0) else 0) else F) (eQ (decide (hi < 0)) n true Q R ok) (eR (decide (hi < 0)) n true Q R ok) (eOk (decide (hi < 0)) n true Q R ok) = true := by
  obtain ⟨h0, h1⟩ := hh
  obtain ⟨n0, n1⟩ := hn
  have wq : wrap64 Q = if Q < 9223372036854775808 then Q else Q - 18446744073709551616 := by unfold wrap64; split <;> omega
  cases ok
  · simp [hf, dQ, dR, dF] at eq er eF
    subst eq er eF
    simp [dvd, eOk]
  · have r2 := r1 rfl
    simp only [if_true] at hf
    subst hf
    have ws : szU n = if n < 0 then -n else n := by unfold szU; simp only [IntKind.wrap_u64]; split <;> omega
    have b2 : szU n ≤ 9223372036854775808 := by rw [ws]; split <;> omega
    have wR : wrap64 R = R := by unfold wrap64; omega
    have wR2 : wrap64 (-R) = -R := by unfold wrap64; omega
    have wr : isI r := by
      rw [er]; unfold dR
      split
      · split <;> exact wrap64_isI _
      · unfold isI; omega
    have hd := down_is wr ⟨n0, n1⟩
    by_cases hc : decide (hi < 0) = decide (n < 0) ∨ R = 0
    · have ha : down r n = false := by
        rw [hd, er]
        unfold apart dR
        by_cases hF : dF hi n (wrap64 Q) 0 = 0
        · rw [if_pos hF, wR, wR2]
          rcases hc with hc | hc
          · by_cases s0 : hi < 0
            · rw [if_pos s0]
              have s1 : n < 0 := by rw [decide_eq_true s0] at hc; exact of_decide_eq_true hc.symm
              by_cases z : R = 0
              · simp [z]
              · rw [decide_eq_true s1, decide_eq_true (show -R < 0 by omega)]; simp
            · rw [if_neg s0]
              have s1 : ¬ n < 0 := by rw [decide_eq_false s0] at hc; exact of_decide_eq_false hc.symm
              rw [decide_eq_false s1, decide_eq_false (show ¬ R < 0 by omega)]; simp
          · simp [hc]
        · simp [hF]
      have e1 : eOk (decide (hi < 0)) n true Q R true = eOk (decide (hi < 0)) n false Q R true := by
        unfold eOk; rcases hc with hc | hc <;> simp [hc]
      have e2 : eQ (decide (hi < 0)) n true Q R true = eQ (decide (hi < 0)) n false Q R true := by
        unfold eQ; rw [e1]; rcases hc with hc | hc <;> simp [hc]
      have e3 : eR (decide (hi < 0)) n true Q R true = eR (decide (hi < 0)) n false Q R true := by
        unfold eR; rw [e1]; rcases hc with hc | hc <;> simp [hc]
      have hs := half_s hi n Q R 0 true ⟨h0, h1⟩ ⟨n0, n1⟩ rfl q0 q1 r0 r1
      rw [ha, e1, e2, e3]
      simp only [Bool.false_eq_true, and_false, if_false]
      rw [show (if F = 0 then (0 : Int) else F) = F by split <;> omega, eq, er, eF]
      exact hs
    · have k1 : ¬ decide (hi < 0) = decide (n < 0) := fun h => hc (.inl h)
      have k2 : ¬ R = 0 := fun h => hc (.inr h)
      clear hc
      have eo : eOk (decide (hi < 0)) n true Q R true = decide (Q < 9223372036854775808) := by unfold eOk; simp [k1, k2]
      rcases Int.lt_trichotomy Q 9223372036854775808 with hq | hq | hq
      · have w1 : wrap64 Q = Q := by unfold wrap64; omega
        have f0 : F = 0 := by rw [eF]; unfold dF; rw [w1]; simp only [if_true, k1, if_false]; rw [if_neg (by omega)]
        have f1 : q = -Q := by rw [eq]; unfold dQ; rw [← eF, f0, w1]; simp only [if_true, k1, if_false]; unfold wrap64; omega
        have f2 : r = if hi < 0 then -R else R := by rw [er]; unfold dR; rw [← eF, f0, wR, wR2]; simp only [if_true]
        have ha : down r n = true := by
          rw [hd, f2]
          unfold apart
          by_cases s0 : hi < 0 <;> by_cases s1 : n < 0
          · exact absurd (by rw [decide_eq_true s0, decide_eq_true s1]) k1
          · rw [if_pos s0, decide_eq_false s1, decide_eq_true (show -R < 0 by omega)]; simp [k2]
          · rw [if_neg s0, decide_eq_true s1, decide_eq_false (show ¬ R < 0 by omega)]; simp [k2]
          · exact absurd (by rw [decide_eq_false s0, decide_eq_false s1]) k1
        have g1 : eQ (decide (hi < 0)) n true Q R true = wrap64 (IntKind.u64.wrap (-IntKind.u64.wrap (Q + 1))) := by unfold eQ; rw [eo, decide_eq_true hq]; simp [k1, k2]
        have g2 : eR (decide (hi < 0)) n true Q R true = wrap64 (if n < 0 then IntKind.u64.wrap (-IntKind.u64.wrap (szU n - R)) else IntKind.u64.wrap (szU n - R)) := by unfold eR; rw [eo, decide_eq_true hq]; simp [k1, k2]
        rw [ha, f0, eo, g1, g2, f1, decide_eq_true hq, ws]
        have m1 : ¬ -Q = -9223372036854775808 := by omega
        have m2 : wrap64 (-Q - 1) = wrap64 (IntKind.u64.wrap (-IntKind.u64.wrap (Q + 1))) := by simp only [IntKind.wrap_u64]; unfold wrap64; omega
        have m3 : wrap64 (r + n) = wrap64 (if n < 0 then IntKind.u64.wrap (-IntKind.u64.wrap ((if n < 0 then -n else n) - R)) else IntKind.u64.wrap ((if n < 0 then -n else n) - R)) := by
          rw [f2]
          by_cases s0 : hi < 0 <;> by_cases s1 : n < 0
          · exact absurd (by rw [decide_eq_true s0, decide_eq_true s1]) k1
          · simp only [s0, s1, if_true, if_false, IntKind.wrap_u64]; unfold wrap64; omega
          · simp only [s0, s1, if_true, if_false, IntKind.wrap_u64]; unfold wrap64; omega
          · exact absurd (by rw [decide_eq_false s0, decide_eq_false s1]) k1
        simp only [true_and, if_true, m1, if_false, dvd, m2, m3, Bool.true_eq_false, beq_self_eq_true, Bool.and_self]
      · have w1 : wrap64 Q = -9223372036854775808 := by unfold wrap64; omega
        have f0 : F = 0 := by rw [eF]; unfold dF; rw [w1]; simp only [if_true, k1, if_false]; rw [if_neg (by omega)]
        have f1 : q = -9223372036854775808 := by rw [eq]; unfold dQ; rw [← eF, f0, w1]; simp only [if_true, k1, if_false]; decide +kernel
        have f2 : r = if hi < 0 then -R else R := by rw [er]; unfold dR; rw [← eF, f0, wR, wR2]; simp only [if_true]
        have ha : down r n = true := by
          rw [hd, f2]
          unfold apart
          by_cases s0 : hi < 0 <;> by_cases s1 : n < 0
          · exact absurd (by rw [decide_eq_true s0, decide_eq_true s1]) k1
          · rw [if_pos s0, decide_eq_false s1, decide_eq_true (show -R < 0 by omega)]; simp [k2]
          · rw [if_neg s0, decide_eq_true s1, decide_eq_false (show ¬ R < 0 by omega)]; simp [k2]
          · exact absurd (by rw [decide_eq_false s0, decide_eq_false s1]) k1
        rw [ha, f0, eo, f1, decide_eq_false (show ¬ Q < 9223372036854775808 by omega)]
        simp [dvd]
      · have w1 : wrap64 Q = Q - 18446744073709551616 := by unfold wrap64; omega
        have f0 : F = 7 := by rw [eF]; unfold dF; rw [w1]; simp only [if_true, k1, if_false]; rw [if_pos (by omega)]
        have f1 : q = 0 := by rw [eq]; unfold dQ; rw [← eF, f0]; simp
        have f2 : r = 0 := by rw [er]; unfold dR; rw [← eF, f0]; simp
        rw [f0, eo, f1, f2, decide_eq_false (show ¬ Q < 9223372036854775808 by omega)]
        simp [dvd]

/-- the reference's division in one contract -/
def xLo (lo hi : Int) : Int := if hi < 0 then lsLo (IntKind.u64.wrap lo) else IntKind.u64.wrap lo
def xHi (lo hi : Int) : Int := if hi < 0 then lsHi (IntKind.u64.wrap lo) (IntKind.u64.wrap hi) else IntKind.u64.wrap hi
def gQ (lo hi n : Int) (down : Bool) : Int := eQ (decide (hi < 0)) n down (vQ (xLo lo hi) (xHi lo hi) (szU n)) (vR (xLo lo hi) (xHi lo hi) (szU n)) (vOk (xHi lo hi) (szU n))
def gR (lo hi n : Int) (down : Bool) : Int := eR (decide (hi < 0)) n down (vQ (xLo lo hi) (xHi lo hi) (szU n)) (vR (xLo lo hi) (xHi lo hi) (szU n)) (vOk (xHi lo hi) (szU n))
def gOk (lo hi n : Int) (down : Bool) : Bool := eOk (decide (hi < 0)) n down (vQ (xLo lo hi) (xHi lo hi) (szU n)) (vR (xLo lo hi) (xHi lo hi) (szU n)) (vOk (xHi lo hi) (szU n))
theorem xLo_is (lo hi : Int) : isU (xLo lo hi) := by unfold xLo; split; exact lsLo_is _; exact isU_wrap _
theorem xHi_is (lo hi : Int) : isU (xHi lo hi) := by unfold xHi; split; exact lsHi_is (isU_wrap _); exact isU_wrap _
theorem rdivide_any (lo hi n : Int) (down : Bool) (w : World) (hh : isI hi) :
    Calls Try.prog 36 #[.agg #[.int .u64 (IntKind.u64.wrap lo), .int .u64 (IntKind.u64.wrap hi)], .int .i64 n, .bool down] w fun e w' => e = .returned (.tuple #[.int .i64 (gQ lo hi n down), .int .i64 (gR lo hi n down), .bool (gOk lo hi n down)]) ∧ Below w.heap.size w w' := by
  obtain ⟨h0, h1⟩ := hh
  unfold gQ gR gOk
  rw [← eV_is]
  by_cases s0 : hi < 0
  · have e1 : xLo lo hi = lsLo (IntKind.u64.wrap lo) := if_pos s0
    have e2 : xHi lo hi = lsHi (IntKind.u64.wrap lo) (IntKind.u64.wrap hi) := if_pos s0
    rw [e1, e2, decide_eq_true s0]
    exact rdivide_neg _ _ n down w (isU_wrap _) (isU_wrap _) (by rw [IntKind.wrap_u64]; omega)
  · have e1 : xLo lo hi = IntKind.u64.wrap lo := if_neg s0
    have e2 : xHi lo hi = IntKind.u64.wrap hi := if_neg s0
    rw [e1, e2, decide_eq_false s0]
    exact rdivide_pos _ _ n down w (isU_wrap _) (isU_wrap _) (by rw [IntKind.wrap_u64]; omega)
theorem halves_s (lo hi n : Int) (hh : isI hi) (hn : isI n) : dvd (sQ lo hi n) (sR lo hi n) (sF lo hi n) (gQ lo hi n false) (gR lo hi n false) (gOk lo hi n false) = true := by
  obtain ⟨k1, k2, k3⟩ := rudiv_hand lo hi n hh
  obtain ⟨b0, b1, b2, b3⟩ := v_bounds (n := szU n) (xLo_is lo hi) (xHi_is lo hi)
  unfold sQ sR sF
  rw [k1, k2, k3]
  exact half_s hi n _ _ _ _ hh hn rfl b0 b1 b2 b3
theorem halves_f (lo hi n : Int) (hh : isI hi) (hn : isI n) : dvd (fQ lo hi n) (fR lo hi n) (fF lo hi n) (gQ lo hi n true) (gR lo hi n true) (gOk lo hi n true) = true := by
  obtain ⟨k1, k2, k3⟩ := rudiv_hand lo hi n hh
  obtain ⟨b0, b1, b2, b3⟩ := v_bounds (n := szU n) (xLo_is lo hi) (xHi_is lo hi)
  refine half_f hi n _ _ _ _ _ _ _ hh hn rfl b0 b1 b2 b3 ?_ ?_ ?_
  · unfold sQ; rw [k1, k2]; rfl
  · unfold sR; rw [k1, k2, k3]; rfl
  · unfold sF; rw [k1, k2]; rfl
theorem halves_u (lo hi n : Int) : dvd (uq lo hi n) (ur lo hi n) (uf hi n) (wrap64 (vQ (IntKind.u64.wrap lo) (IntKind.u64.wrap hi) (IntKind.u64.wrap n))) (wrap64 (vR (IntKind.u64.wrap lo) (IntKind.u64.wrap hi) (IntKind.u64.wrap n))) (vOk (IntKind.u64.wrap hi) (IntKind.u64.wrap n)) = true := by
  unfold uq ur uf vQ vR vOk dvd
  by_cases h : IntKind.u64.wrap hi < IntKind.u64.wrap n <;> simp [h]
theorem carry {W W' : World} {b o : Nat} {v : Value} (h : Below W.heap.size W W') (hz : b < W.heap.size) (hc : W.cell? ⟨b, o, none⟩ = some v) : W'.cell? ⟨b, o, none⟩ = some v := (h.cell (p := ⟨b, o, none⟩) hz).trans hc
set_option maxHeartbeats 2000000 in
theorem walk_halves (lo hi n : Int) (hl : (Lit.int .i64 lo).wf = true) (hh : (Lit.int .i64 hi).wf = true) (hn : (Lit.int .i64 n).wf = true) (w : World) :
    Calls Try.prog 8 #[.int .i64 lo, .int .i64 hi, .int .i64 n] w fun e w' => e = .returned (.bool true) ∧ Below w.heap.size w w' := by
  have p1 := halves_u lo hi n
  have p2 := halves_f lo hi n (isI_of hh) (isI_of hn)
  have p3 := halves_s lo hi n (isI_of hh) (isI_of hn)
  have HI := isI_of hh
  clear hl hh hn
  go_enter Try.func8, Try.ntmps8
  go_wp2_with (fail)
  refine (shown_any _).mono ?_
  rintro e w0 ⟨rfl, hb⟩
  go_wp2_with (fail)
  refine (udivide_any _ _ _ _).mono ?_
  rintro e w1 ⟨rfl, hb1⟩
  have z1 : w0.heap.size + 1 < w1.heap.size := bsize hb1 (by simp)
  have hB1 : Below w.heap.size w w1 := ((hb.alloc hb.size _).alloc (by have := hb.size; simp; omega) _).trans (hb1.mono (by have := hb.size; simp; omega))
  have a1 : w1.cell? ⟨w0.heap.size, 0, none⟩ = some (.int .i64 lo) := carry hb1 (by simp; omega) (by simp [go_sem])
  have b1 : w1.cell? ⟨w0.heap.size, 1, none⟩ = some (.int .i64 hi) := carry hb1 (by simp; omega) (by simp [go_sem])
  have c1 : w1.cell? ⟨w0.heap.size + 1, 0, none⟩ = some (.int .u64 (IntKind.u64.wrap lo)) := carry hb1 (by simp) (by simp [go_sem])
  have d1 : w1.cell? ⟨w0.heap.size + 1, 1, none⟩ = some (.int .u64 (IntKind.u64.wrap hi)) := carry hb1 (by simp) (by simp [go_sem])
  go_wp2_with (fail)
  refine (rudiv_is _ _ _ _ (isU_wrap _) (isU_wrap _) (isU_wrap _)).mono ?_
  rintro e w2 ⟨rfl, hb2⟩
  have z2 : w0.heap.size + 1 < w2.heap.size := bsize hb2 z1
  have hB2 : Below w.heap.size w w2 := hB1.trans (hb2.mono hB1.size)
  have a2 := carry hb2 (by omega) a1
  have b2 := carry hb2 (by omega) b1
  have c2 := carry hb2 z1 c1
  have d2 := carry hb2 z1 d1
  clear a1 b1 c1 d1
  go_wp2_with (fail)
  refine (divided_any _ _ _ _ _ _ _).mono ?_
  rintro e w' ⟨rfl, rfl⟩
  go_wp2_with (fail)
  refine (fdivide_any _ _ _ _).mono ?_
  rintro e w3 ⟨rfl, hb3⟩
  have z3 : w0.heap.size + 1 < w3.heap.size := bsize hb3 z2
  have hB3 : Below w.heap.size w w3 := hB2.trans (hb3.mono hB2.size)
  have a3 := carry hb3 (by omega) a2
  have b3 := carry hb3 (by omega) b2
  have c3 := carry hb3 z2 c2
  have d3 := carry hb3 z2 d2
  clear a2 b2 c2 d2
  go_wp2_with (fail)
  refine (rdivide_any _ _ _ true _ HI).mono ?_
  rintro e w4 ⟨rfl, hb4⟩
  have z4 : w0.heap.size + 1 < w4.heap.size := bsize hb4 z3
  have hB4 : Below w.heap.size w w4 := hB3.trans (hb4.mono hB3.size)
  have a4 := carry hb4 (by omega) a3
  have b4 := carry hb4 (by omega) b3
  have c4 := carry hb4 z3 c3
  have d4 := carry hb4 z3 d3
  clear a3 b3 c3 d3
  go_wp2_with (fail)
  refine (divided_any _ _ _ _ _ _ _).mono ?_
  rintro e w' ⟨rfl, rfl⟩
  go_wp2_with (fail)
  refine (sdivide_any _ _ _ _).mono ?_
  rintro e w5 ⟨rfl, hb5⟩
  have z5 : w0.heap.size + 1 < w5.heap.size := bsize hb5 z4
  have hB5 : Below w.heap.size w w5 := hB4.trans (hb5.mono hB4.size)
  have a5 := carry hb5 (by omega) a4
  have b5 := carry hb5 (by omega) b4
  have c5 := carry hb5 z4 c4
  have d5 := carry hb5 z4 d4
  clear a4 b4 c4 d4
  go_wp2_with (fail)
  refine (rdivide_any _ _ _ false _ HI).mono ?_
  rintro e w6 ⟨rfl, hb6⟩
  have z6 : w0.heap.size + 1 < w6.heap.size := bsize hb6 z5
  have hB6 : Below w.heap.size w w6 := hB5.trans (hb6.mono hB5.size)
  have a6 := carry hb6 (by omega) a5
  have b6 := carry hb6 (by omega) b5
  have c6 := carry hb6 z5 c5
  have d6 := carry hb6 z5 d5
  clear a5 b5 c5 d5
  go_wp2_with (fail)
  refine (divided_any _ _ _ _ _ _ _).mono ?_
  rintro e w' ⟨rfl, rfl⟩
  go_wp2_with (fail)
  go_returns
  exact ⟨rfl, hB6⟩
end Go.Proofs.Ytfifbkcgaohhbaa
