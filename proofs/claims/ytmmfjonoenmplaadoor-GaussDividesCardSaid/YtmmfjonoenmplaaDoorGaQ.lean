import Derived.Test.YtmmfjonoenmplaaDoorGaP
namespace Go.Proofs.YtmmfjonoenmplaaDoor
open Go.RowKit Go.Extern.Stop Go.Stop Go.Extern
set_option linter.unusedVariables false
set_option linter.unusedSimpArgs false
/-! which number divides which -/
def Dv (d a : Int × Int) : Prop := ∃ q, a = mulZ q d
def addZ (a b : Int × Int) : Int × Int := (a.1 + b.1, a.2 + b.2)
def subZ (a b : Int × Int) : Int × Int := (a.1 - b.1, a.2 - b.2)
theorem Dv.self (d : Int × Int) : Dv d d := ⟨(1, 0), by unfold mulZ; ext <;> simp⟩
theorem Dv.zero (d : Int × Int) : Dv d (0, 0) := ⟨(0, 0), by unfold mulZ; ext <;> simp⟩
theorem Dv.mul {d a : Int × Int} (q : Int × Int) (h : Dv d a) : Dv d (mulZ q a) := by
  obtain ⟨p, rfl⟩ := h
  exact ⟨mulZ q p, by rw [mulZ_assoc]⟩
theorem Dv.trans {c d a : Int × Int} (h : Dv c d) (k : Dv d a) : Dv c a := by
  obtain ⟨p, rfl⟩ := k
  exact h.mul p
theorem Dv.add {d a b : Int × Int} (h : Dv d a) (k : Dv d b) : Dv d (addZ a b) := by
  obtain ⟨p, rfl⟩ := h
  obtain ⟨q, rfl⟩ := k
  exact ⟨addZ p q, by unfold mulZ addZ; ext <;> simp only <;> grind⟩
theorem Dv.sub {d a b : Int × Int} (h : Dv d a) (k : Dv d b) : Dv d (subZ a b) := by
  obtain ⟨p, rfl⟩ := h
  obtain ⟨q, rfl⟩ := k
  exact ⟨subZ p q, by unfold mulZ subZ; ext <;> simp only <;> grind⟩
theorem divR_eq (a b : Int × Int) : divR a b = subZ a (mulZ (divQ a b) b) := rfl
theorem divR_back (a b : Int × Int) : addZ (mulZ (divQ a b) b) (divR a b) = a := by rw [divR_eq]; unfold addZ subZ; ext <;> simp only <;> omega
theorem gcdF_dv : ∀ (k : Nat) (a b : Int × Int), normN b < k → (Dv (gcdF k a b) a ∧ Dv (gcdF k a b) b) ∧ ∀ c, Dv c a → Dv c b → Dv c (gcdF k a b)
  | 0, _, _, h => absurd h (by omega)
  | k + 1, a, b, h => by
    unfold gcdF
    by_cases hb : b = (0, 0)
    · rw [if_pos hb]
      subst hb
      exact ⟨⟨Dv.self _, Dv.zero _⟩, fun c h1 _ => h1⟩
    · rw [if_neg hb]
      have hl := norm_less a b hb
      have ih := gcdF_dv k b (divR a b) (by omega)
      refine ⟨⟨?_, ih.1.1⟩, fun c h1 h2 => ih.2 c h2 ?_⟩
      · have h3 := (ih.1.1.mul (divQ a b)).add ih.1.2
        rw [divR_back] at h3
        exact h3
      · rw [divR_eq]
        exact h1.sub (h2.mul _)
theorem gcd_dv1 (a b : Int × Int) : Dv (gcdZ a b) a := (gcdF_dv _ a b (by omega)).1.1
theorem gcd_dv2 (a b : Int × Int) : Dv (gcdZ a b) b := (gcdF_dv _ a b (by omega)).1.2
theorem gcd_most (a b c : Int × Int) (h : Dv c a) (k : Dv c b) : Dv c (gcdZ a b) := (gcdF_dv _ a b (by omega)).2 c h k
theorem dv_rot (a : Int × Int) : Dv a (rotZ a) := ⟨(0, 1), by unfold mulZ rotZ; ext <;> simp⟩
theorem dv_turnK : ∀ (k : Nat) (a : Int × Int), Dv a (turnK k a)
  | 0, a => Dv.self a
  | k + 1, a => (dv_rot a).trans (dv_turnK k (rotZ a))
theorem dv_turn (a : Int × Int) (n : Int) : Dv a (turnZ a n) := dv_turnK _ a
theorem turn_dv (a : Int × Int) (n : Int) : Dv (turnZ a n) a := by
  have h := dv_turn (turnZ a n) (-n)
  rw [turn_back] at h
  exact h
theorem norm_zero {a : Int × Int} (h : normZ a = 0) : a = (0, 0) := by
  by_cases h0 : a = (0, 0)
  · exact h0
  · have := norm_pos h0
    omega
theorem norm_nonneg (a : Int × Int) : 0 ≤ normZ a := by
  have h1 := sq_nonneg a.1
  have h2 := sq_nonneg a.2
  unfold normZ
  omega
theorem unit_cases {q : Int × Int} (h : normZ q = 1) : ∃ j, ∀ c, mulZ q c = turnK j c := by
  obtain ⟨q1, q2⟩ := q
  unfold normZ at h
  simp only at h
  have s1 := sq_nonneg q1
  have s2 := sq_nonneg q2
  have key : ∀ x : Int, x * x ≤ 1 → x = -1 ∨ x = 0 ∨ x = 1 := fun x hx => by
    have e : (x * x).natAbs = x.natAbs * x.natAbs := Int.natAbs_mul ..
    have h3 := sq_nonneg x
    rcases Nat.lt_or_ge x.natAbs 2 with h | h
    · omega
    · have := Nat.mul_le_mul h h
      omega
  rcases key q1 (by omega) with rfl | rfl | rfl <;> rcases key q2 (by omega) with rfl | rfl | rfl
  all_goals first
    | exact absurd h (by decide)
    | (refine ⟨0, fun c => ?_⟩; simp [mulZ, turnK, rotZ]; done)
    | (refine ⟨1, fun c => ?_⟩; simp [mulZ, turnK, rotZ]; done)
    | (refine ⟨2, fun c => ?_⟩; simp [mulZ, turnK, rotZ]; done)
    | (refine ⟨3, fun c => ?_⟩; simp [mulZ, turnK, rotZ]; done)
theorem first_rot (a : Int × Int) : firstZ (rotZ a) = firstZ a := by
  have r4 : rotZ (rotZ (rotZ (rotZ a))) = a := by simp [rotZ]
  have h0 : headZ a ↔ 0 < a.1 ∧ 0 ≤ a.2 := Iff.rfl
  have h1 : headZ (rotZ a) ↔ 0 < -a.2 ∧ 0 ≤ a.1 := Iff.rfl
  have h2 : headZ (rotZ (rotZ a)) ↔ 0 < -a.1 ∧ 0 ≤ -a.2 := Iff.rfl
  have h3 : headZ (rotZ (rotZ (rotZ a))) ↔ 0 < - -a.2 ∧ 0 ≤ -a.1 := Iff.rfl
  by_cases c0 : headZ a <;> by_cases c1 : headZ (rotZ a) <;> by_cases c2 : headZ (rotZ (rotZ a)) <;> by_cases c3 : headZ (rotZ (rotZ (rotZ a)))
  all_goals first
    | (simp [firstZ, firstK, c0, c1, c2, c3, r4]; done)
    | (exfalso; simp only [h0, h1, h2, h3] at c0 c1 c2 c3; omega)
    | skip
  have e1 : a.1 = 0 := by simp only [h0, h1, h2, h3] at c0 c1 c2 c3; omega
  have e2 : a.2 = 0 := by simp only [h0, h1, h2, h3] at c0 c1 c2 c3; omega
  have e : a = (0, 0) := Prod.ext e1 e2
  subst e
  rfl
theorem first_turnK : ∀ (k : Nat) (a : Int × Int), firstZ (turnK k a) = firstZ a
  | 0, a => rfl
  | k + 1, a => by unfold turnK; rw [first_turnK k, first_rot]
theorem first_turn (a : Int × Int) (n : Int) : firstZ (turnZ a n) = firstZ a := first_turnK _ a
/-- numbers that divide one another have one First -/
theorem first_of_dv {c d : Int × Int} (h : Dv c d) (k : Dv d c) : firstZ d = firstZ c := by
  obtain ⟨q, hq⟩ := h
  obtain ⟨p, hp⟩ := k
  by_cases h0 : c = (0, 0)
  · have : d = (0, 0) := by rw [hq, h0]; unfold mulZ; simp
    rw [h0, this]
  · have hn := norm_pos h0
    have e : normZ c = normZ p * normZ q * normZ c := by
      have e1 : normZ c = normZ p * normZ d := by rw [← normZ_mul, ← hp]
      have e2 : normZ d = normZ q * normZ c := by rw [← normZ_mul, ← hq]
      rw [e2] at e1
      rw [Int.mul_assoc]
      exact e1
    have e3 : normZ p * normZ q = 1 := Int.eq_of_mul_eq_mul_right (by omega : normZ c ≠ 0) (by rw [← e, Int.one_mul])
    have hp0 := norm_nonneg p
    have hq0 := norm_nonneg q
    have e4 : normZ q = 1 := by
      have e5 : (normZ p * normZ q).natAbs = (normZ p).natAbs * (normZ q).natAbs := Int.natAbs_mul ..
      rw [e3] at e5
      have : (normZ q).natAbs = 1 := Nat.eq_one_of_mul_eq_one_left e5.symm
      omega
    obtain ⟨j, hj⟩ := unit_cases e4
    rw [hq, hj, first_turnK]
theorem gcd_turned (x y : Int × Int) (n m : Int) : firstZ (gcdZ (turnZ x n) (turnZ y m)) = firstZ (gcdZ x y) := by
  refine first_of_dv (gcd_most _ _ _ ((gcd_dv1 x y).trans (dv_turn x n)) ((gcd_dv2 x y).trans (dv_turn y m))) (gcd_most _ _ _ ((gcd_dv1 _ _).trans (turn_dv x n)) ((gcd_dv2 _ _).trans (turn_dv y m)))
theorem norm_turn (a : Int × Int) (n : Int) : normZ (turnZ a n) = normZ a := by
  rcases turn_form a n with ⟨_, h⟩ | ⟨_, h⟩ | ⟨_, h⟩ | ⟨_, h⟩
  all_goals (rw [h] <;> (unfold normZ; simp only; grind))
/-- nothing is left where the divisor divides -/
theorem near_exact (q n : Int) (hn : 0 < n) : nearZ (q * n) n = q := by
  have h1 : q * n / n = q := Int.mul_ediv_cancel _ (by omega)
  have h2 : q * n % n = 0 := Int.mul_emod_left ..
  unfold nearZ
  rw [h1, h2]
  rw [if_neg (by omega)]
theorem dv_left {a b : Int × Int} (h : Dv b a) (hb : b ≠ (0, 0)) : divR a b = (0, 0) := by
  obtain ⟨q, rfl⟩ := h
  have hn := norm_pos hb
  have e1 : (mulZ (mulZ q b) (conjZ b)).1 = q.1 * normZ b := by unfold mulZ conjZ normZ; simp only; grind
  have e2 : (mulZ (mulZ q b) (conjZ b)).2 = q.2 * normZ b := by unfold mulZ conjZ normZ; simp only; grind
  have e3 : divQ (mulZ q b) b = q := by
    unfold divQ
    rw [e1, e2, near_exact _ _ hn, near_exact _ _ hn]
  unfold divR
  rw [e3]
  ext <;> simp
theorem dv_zero_only {a : Int × Int} (h : Dv (0, 0) a) : a = (0, 0) := by
  obtain ⟨q, rfl⟩ := h
  unfold mulZ
  simp
/-- First is the number turned -/
theorem first_is (a : Int × Int) : ∃ k, firstZ a = turnK k a := by
  simp only [firstZ, firstK]
  by_cases c0 : headZ a
  · exact ⟨0, by rw [if_pos c0]; rfl⟩
  · rw [if_neg c0]
    by_cases c1 : headZ (rotZ a)
    · exact ⟨1, by rw [if_pos c1]; rfl⟩
    · rw [if_neg c1]
      by_cases c2 : headZ (rotZ (rotZ a))
      · exact ⟨2, by rw [if_pos c2]; rfl⟩
      · rw [if_neg c2]
        by_cases c3 : headZ (rotZ (rotZ (rotZ a)))
        · exact ⟨3, by rw [if_pos c3]; rfl⟩
        · exact ⟨4, by rw [if_neg c3]; rfl⟩
theorem turnK_fours : ∀ (k : Nat) (a : Int × Int), turnK (4 * k) a = a
  | 0, a => rfl
  | k + 1, a => by rw [show 4 * (k + 1) = 4 + 4 * k by omega, ← turnK_turnK, turnK_4, turnK_fours k]
theorem first_dv (a : Int × Int) : Dv a (firstZ a) := by
  obtain ⟨k, h⟩ := first_is a
  rw [h]
  exact dv_turnK k a
theorem dv_first (a : Int × Int) : Dv (firstZ a) a := by
  obtain ⟨k, h⟩ := first_is a
  rw [h]
  have e : turnK (3 * k) (turnK k a) = a := by
    rw [turnK_turnK, show k + 3 * k = 4 * k by omega]
    exact turnK_fours k a
  have g := dv_turnK (3 * k) (turnK k a)
  rw [e] at g
  exact g
theorem first_head (a : Int × Int) (h : a ≠ (0, 0)) : headZ (firstZ a) := by
  have h0 : headZ a ↔ 0 < a.1 ∧ 0 ≤ a.2 := Iff.rfl
  have h1 : headZ (rotZ a) ↔ 0 < -a.2 ∧ 0 ≤ a.1 := Iff.rfl
  have h2 : headZ (rotZ (rotZ a)) ↔ 0 < -a.1 ∧ 0 ≤ -a.2 := Iff.rfl
  have h3 : headZ (rotZ (rotZ (rotZ a))) ↔ 0 < - -a.2 ∧ 0 ≤ -a.1 := Iff.rfl
  simp only [firstZ, firstK]
  by_cases c0 : headZ a
  · rw [if_pos c0]; exact c0
  · rw [if_neg c0]
    by_cases c1 : headZ (rotZ a)
    · rw [if_pos c1]; exact c1
    · rw [if_neg c1]
      by_cases c2 : headZ (rotZ (rotZ a))
      · rw [if_pos c2]; exact c2
      · rw [if_neg c2]
        by_cases c3 : headZ (rotZ (rotZ (rotZ a)))
        · rw [if_pos c3]; exact c3
        · exfalso
          simp only [h0, h1, h2, h3] at c0 c1 c2 c3
          exact h (Prod.ext (by simp only; omega) (by simp only; omega))
end Go.Proofs.YtmmfjonoenmplaaDoor
