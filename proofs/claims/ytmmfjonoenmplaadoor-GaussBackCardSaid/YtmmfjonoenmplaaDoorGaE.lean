import Derived.Test.YtmmfjonoenmplaaDoorGaD
namespace Go.Proofs.YtmmfjonoenmplaaDoor
open Go.RowKit Go.Extern.Stop Go.Stop Go.Extern
set_option linter.unusedVariables false
set_option linter.unusedSimpArgs false
/-! gauss.Of, Div, Turn, First; the arithmetic of quotients -/
def conjZ (a : Int × Int) : Int × Int := (a.1, -a.2)
def divQ (a b : Int × Int) : Int × Int := (nearZ (mulZ a (conjZ b)).1 (normZ b), nearZ (mulZ a (conjZ b)).2 (normZ b))
def divR (a b : Int × Int) : Int × Int := (a.1 - (mulZ (divQ a b) b).1, a.2 - (mulZ (divQ a b) b).2)
theorem sq_nonneg (a : Int) : 0 ≤ a * a := by
  rcases Int.le_total 0 a with h | h
  · exact Int.mul_nonneg h h
  · exact Int.mul_nonneg_of_nonpos_of_nonpos h h
theorem norm_pos {b : Int × Int} (h : b ≠ (0, 0)) : 0 < normZ b := by
  obtain ⟨b1, b2⟩ := b
  unfold normZ
  have h1 := sq_nonneg b1
  have h2 := sq_nonneg b2
  simp only
  rcases Int.lt_trichotomy b1 0 with h3 | h3 | h3
  · have := Int.mul_pos_of_neg_of_neg h3 h3; omega
  · subst h3
    rcases Int.lt_trichotomy b2 0 with h4 | h4 | h4
    · have := Int.mul_pos_of_neg_of_neg h4 h4; omega
    · subst h4; exact absurd rfl h
    · have := Int.mul_pos h4 h4; omega
  · have := Int.mul_pos h3 h3; omega
theorem near_dev (x n : Int) (hn : 0 < n) : -n ≤ 2 * (x - nearZ x n * n) ∧ 2 * (x - nearZ x n * n) ≤ n := by
  have h1 := Int.mul_ediv_add_emod x n
  have h2 := Int.emod_nonneg x (show n ≠ 0 by omega)
  have h3 := Int.emod_lt_of_pos x hn
  unfold nearZ
  have e : n * (x / n) = x / n * n := Int.mul_comm ..
  split
  · rw [Int.add_mul, Int.one_mul]; omega
  · omega
theorem near_le {x n A : Int} (hn : 0 < n) (hA : 0 ≤ A) (h1 : -(A * n) ≤ x) (h2 : x ≤ A * n) : -A ≤ nearZ x n ∧ nearZ x n ≤ A := by
  have d := near_dev x n hn
  obtain ⟨q, hq⟩ : ∃ q, nearZ x n = q := ⟨_, rfl⟩
  rw [hq] at d ⊢
  constructor
  · rcases Int.lt_or_le q (-A) with h | h
    · have : q + 1 ≤ -A := by omega
      have h3 : (q + 1) * n ≤ -A * n := Int.mul_le_mul_of_nonneg_right this (by omega)
      rw [Int.add_mul, Int.one_mul, Int.neg_mul] at h3
      exfalso
      have h4 : (q + 1) * n ≤ (-A) * n := Int.mul_le_mul_of_nonneg_right this (by omega)
      have : 2 * (x - q * n) ≤ n := d.2
      omega
    · exact h
  · rcases Int.lt_or_le A q with h | h
    · have : A + 1 ≤ q := by omega
      have h3 : (A + 1) * n ≤ q * n := Int.mul_le_mul_of_nonneg_right this (by omega)
      rw [Int.add_mul, Int.one_mul] at h3
      omega
    · exact h
theorem part_le {a b A : Int} (h1 : -A ≤ a) (h2 : a ≤ A) : -(A * (b * b)) ≤ a * b ∧ a * b ≤ A * (b * b) := by
  have e : (a * b).natAbs = a.natAbs * b.natAbs := Int.natAbs_mul ..
  have h3 : a.natAbs ≤ A.natAbs := by omega
  have h4 : b.natAbs ≤ b.natAbs * b.natAbs := Nat.le_mul_self _
  have h5 := Nat.mul_le_mul h3 h4
  have e2 : (A * (b * b)).natAbs = A.natAbs * (b.natAbs * b.natAbs) := by rw [Int.natAbs_mul, Int.natAbs_mul]
  have h6 : 0 ≤ A * (b * b) := Int.mul_nonneg (by omega) (sq_nonneg b)
  omega
theorem divQ_le {a b : Int × Int} {A : Int} (hA : 0 ≤ A) (ha : Sm a A) (hb : b ≠ (0, 0)) : Sm (divQ a b) A := by
  have hn := norm_pos hb
  obtain ⟨a1, a2⟩ := a
  obtain ⟨b1, b2⟩ := b
  obtain ⟨h1, h2, h3, h4⟩ := ha
  simp only at h1 h2 h3 h4
  have p1 := part_le (b := b1) h1 h2
  have p2 := part_le (b := b2) h3 h4
  have p3 := part_le (b := b1) h3 h4
  have p4 := part_le (b := b2) h1 h2
  unfold divQ mulZ conjZ normZ at *
  simp only at *
  have e1 : a1 * b1 - a2 * -b2 = a1 * b1 + a2 * b2 := by rw [Int.mul_neg]; omega
  have e2 : a1 * -b2 + a2 * b1 = a2 * b1 - a1 * b2 := by rw [Int.mul_neg]; omega
  rw [e1, e2]
  have e3 : A * (b1 * b1 + b2 * b2) = A * (b1 * b1) + A * (b2 * b2) := Int.mul_add ..
  have q1 := near_le (x := a1 * b1 + a2 * b2) hn hA (by omega) (by omega)
  have q2 := near_le (x := a2 * b1 - a1 * b2) hn hA (by omega) (by omega)
  exact ⟨q1.1, q1.2, q2.1, q2.2⟩
theorem sq_le {d n : Int} (h1 : -n ≤ 2 * d) (h2 : 2 * d ≤ n) : 4 * (d * d) ≤ n * n := by
  have e : (2 * d * (2 * d)).natAbs = (2 * d).natAbs * (2 * d).natAbs := Int.natAbs_mul ..
  have h3 : (2 * d).natAbs ≤ n.natAbs := by omega
  have h4 := Nat.mul_le_mul h3 h3
  have e2 : (n * n).natAbs = n.natAbs * n.natAbs := Int.natAbs_mul ..
  have h5 := sq_nonneg n
  have h6 := sq_nonneg (2 * d)
  have e3 : 2 * d * (2 * d) = 4 * (d * d) := by grind
  omega
/-- what is left has at most half the norm -/
theorem rem_norm (a b : Int × Int) (hb : b ≠ (0, 0)) : 2 * normZ (divR a b) ≤ normZ b := by
  have hn := norm_pos hb
  obtain ⟨a1, a2⟩ := a
  obtain ⟨b1, b2⟩ := b
  obtain ⟨q1, hq1⟩ : ∃ q, nearZ (mulZ (a1, a2) (conjZ (b1, b2))).1 (normZ (b1, b2)) = q := ⟨_, rfl⟩
  obtain ⟨q2, hq2⟩ : ∃ q, nearZ (mulZ (a1, a2) (conjZ (b1, b2))).2 (normZ (b1, b2)) = q := ⟨_, rfl⟩
  have d1 := near_dev (mulZ (a1, a2) (conjZ (b1, b2))).1 _ hn
  have d2 := near_dev (mulZ (a1, a2) (conjZ (b1, b2))).2 _ hn
  rw [hq1] at d1
  rw [hq2] at d2
  unfold divR divQ
  rw [hq1, hq2]
  unfold mulZ conjZ normZ at *
  simp only at *
  have s1 := sq_le d1.1 d1.2
  have s2 := sq_le d2.1 d2.2
  obtain ⟨n, hnn⟩ : ∃ n, b1 * b1 + b2 * b2 = n := ⟨_, rfl⟩
  have ident : ((a1 - (q1 * b1 - q2 * b2)) * (a1 - (q1 * b1 - q2 * b2)) + (a2 - (q1 * b2 + q2 * b1)) * (a2 - (q1 * b2 + q2 * b1))) * (b1 * b1 + b2 * b2) = (a1 * b1 - a2 * -b2 - q1 * (b1 * b1 + b2 * b2)) * (a1 * b1 - a2 * -b2 - q1 * (b1 * b1 + b2 * b2)) + (a1 * -b2 + a2 * b1 - q2 * (b1 * b1 + b2 * b2)) * (a1 * -b2 + a2 * b1 - q2 * (b1 * b1 + b2 * b2)) := by grind
  rw [hnn] at ident s1 s2 hn ⊢
  clear d1 d2
  obtain ⟨r, hr⟩ : ∃ r, (a1 - (q1 * b1 - q2 * b2)) * (a1 - (q1 * b1 - q2 * b2)) + (a2 - (q1 * b2 + q2 * b1)) * (a2 - (q1 * b2 + q2 * b1)) = r := ⟨_, rfl⟩
  rw [hr] at ident ⊢
  have h4 : 4 * (r * n) ≤ 2 * (n * n) := by omega
  rcases Int.lt_or_le n (2 * r) with h | h
  · exfalso
    have h5 : n * n < 2 * r * n := Int.mul_lt_mul_of_pos_right h hn
    have e : 2 * r * n = 2 * (r * n) := Int.mul_assoc ..
    omega
  · exact h
theorem norm_sm {r : Int × Int} {B : Int} (hB : 0 ≤ B) (h : normZ r ≤ B * B) : Sm r B := by
  obtain ⟨r1, r2⟩ := r
  unfold normZ at h
  simp only at h
  have h1 := sq_nonneg r1
  have h2 := sq_nonneg r2
  have key : ∀ x : Int, x * x ≤ B * B → -B ≤ x ∧ x ≤ B := by
    intro x hx
    have e : (x * x).natAbs = x.natAbs * x.natAbs := Int.natAbs_mul ..
    have e2 : (B * B).natAbs = B.natAbs * B.natAbs := Int.natAbs_mul ..
    have h3 := sq_nonneg x
    have h4 := sq_nonneg B
    have h5 : x.natAbs * x.natAbs ≤ B.natAbs * B.natAbs := by omega
    have h6 : x.natAbs ≤ B.natAbs := by
      rcases Nat.lt_or_ge B.natAbs x.natAbs with h | h
      · have := Nat.mul_lt_mul_of_lt_of_le h (Nat.le_of_lt h) (by omega)
        omega
      · exact h
    omega
  have k1 := key r1 (by omega)
  have k2 := key r2 (by omega)
  exact ⟨k1.1, k1.2, k2.1, k2.2⟩
theorem divR_sm {a b : Int × Int} (hb : b ≠ (0, 0)) (hs : Sm b 16777216) : Sm (divR a b) 16777216 := by
  have h := rem_norm a b hb
  have n := norm_le hs
  refine norm_sm (by decide) ?_
  have : normZ b = b.1 * b.1 + b.2 * b.2 := rfl
  omega
theorem wd_zero : Wd 0 0 := ⟨by decide, false, by decide +kernel, by decide⟩
theorem wd_pos1 : Wd 4607182418800017408 1 := ⟨by decide, false, by decide +kernel, by decide⟩
theorem wd_neg1 : Wd 13830554455654793216 (-1) := ⟨by decide, true, by decide +kernel, by decide⟩
theorem eq_zero {x : Nat} {a : Int} (hx : Wd x a) : (FloatKind.f64.format.order x 0 == some .eq) = decide (a = 0) := by
  have h : FloatKind.f64.format.order x 0 = some (compare a 0) := wd_order hx wd_zero
  rw [h]
  by_cases h0 : a = 0
  · subst h0; rfl
  · rw [decide_eq_false h0]
    have : compare a 0 ≠ .eq := fun e => h0 (cmp_eq.1 e)
    simpa using this
set_option maxRecDepth 100000 in
theorem of_any (a : Int × Int) (ha : Sm a 9223372036854775807) (w : World) : Calls Tryd.prog 29 #[.int .i64 a.1, .int .i64 a.2] w fun e w' => e = .returned (res a) ∧ w' = w := by
  obtain ⟨a1, a2⟩ := a
  obtain ⟨h1, h2, h3, h4⟩ := ha
  simp only at h1 h2 h3 h4 ⊢
  unfold res toldV
  by_cases hin : a1.natAbs ≤ 16777216 ∧ a2.natAbs ≤ 16777216
  · rw [if_pos hin]
    have v1 := fun w => toFloat_run a1 (by omega) w
    have v2 := fun w => toFloat_run a2 (by omega) w
    have m1 : a1 ≤ 16777216 := by omega
    have m2 : a2 ≤ 16777216 := by omega
    have m3 : -16777216 ≤ a1 := by omega
    have m4 : -16777216 ≤ a2 := by omega
    clear hin
    go_enter Tryd.func29, Tryd.ntmps29
    go_wp2_with (fail)
    all_goals (go_returns; exact ⟨rfl, rfl⟩)
  · rw [if_neg hin]
    rcases (by omega : 16777216 < a1 ∨ a1 ≤ 16777216 ∧ 16777216 < a2 ∨ a1 ≤ 16777216 ∧ a2 ≤ 16777216 ∧ a1 < -16777216 ∨ a1 ≤ 16777216 ∧ a2 ≤ 16777216 ∧ -16777216 ≤ a1 ∧ a2 < -16777216) with m1 | ⟨m1, m2⟩ | ⟨m1, m2, m3⟩ | ⟨m1, m2, m3, m4⟩
    all_goals (
      clear hin
      go_enter Tryd.func29, Tryd.ntmps29
      go_wp2_with (fail)
      all_goals (try omega)
      all_goals (go_returns; exact ⟨rfl, rfl⟩))
end Go.Proofs.YtmmfjonoenmplaaDoor
