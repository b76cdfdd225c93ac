import Derived.Test.YtfifbkcgaohhbaaCellS
import Derived.Test.YtfifbkcgaohhbaaCellT
namespace Go.Proofs.Ytfifbkcgaohhbaa
open Go.RowKit
set_option linter.unusedVariables false
set_option linter.unusedSimpArgs false
/-! CellBack: the plain law -/
theorem back_bytes {b0 b1 b2 b3 b4 b5 b6 b7 : Int} (h0 : isB b0) (h1 : isB b1) (h2 : isB b2) (h3 : isB b3) (h4 : isB b4) (h5 : isB b5) (h6 : isB b6) (h7 : isB b7) : bytesV (hor b0 b1 b2 b3 b4 b5 b6 b7) = arr8 b0 b1 b2 b3 b4 b5 b6 b7 := by
  unfold isB at *
  obtain ⟨x, hx⟩ : ∃ x, hor b0 b1 b2 b3 b4 b5 b6 b7 = x := ⟨_, rfl⟩
  have e : ∃ q, x = b0 + 256 * b1 + 65536 * b2 + 16777216 * b3 + 4294967296 * b4 + 1099511627776 * b5 + 281474976710656 * b6 + 72057594037927936 * b7 + q * 18446744073709551616 := by
    obtain ⟨q, hq⟩ := wrap64_split (256 * (256 * (256 * (256 * (256 * (256 * (256 * b7 + b6) + b5) + b4) + b3) + b2) + b1) + b0)
    exact ⟨q, by rw [← hx]; unfold hor; rw [hq]; omega⟩
  obtain ⟨q, hq⟩ := e
  rw [hx]
  unfold bytesV arr8
  have e0 : x % 256 = b0 := by omega
  have e1 : x / 256 % 256 = b1 := by omega
  have e2 : x / 65536 % 256 = b2 := by omega
  have e3 : x / 16777216 % 256 = b3 := by omega
  have e4 : x / 4294967296 % 256 = b4 := by omega
  have e5 : x / 1099511627776 % 256 = b5 := by omega
  have e6 : x / 281474976710656 % 256 = b6 := by omega
  have e7 : x / 72057594037927936 % 256 = b7 := by omega
  rw [e0, e1, e2, e3, e4, e5, e6, e7]
theorem byte_is (x : Int) : isB (x % 256) := by unfold isB; omega
theorem back_of {a : Int} (h : isI a) : hor (a % 256) (a / 256 % 256) (a / 65536 % 256) (a / 16777216 % 256) (a / 4294967296 % 256) (a / 1099511627776 % 256) (a / 281474976710656 % 256) (a / 72057594037927936 % 256) = a := by
  obtain ⟨h0, h1⟩ := h
  unfold hor wrap64
  omega
theorem sym_back {a b : Int} (ha : isI a) (hb : ¬ b = 0) : wrap64 (wrap64 (yQ a b * b) + yR a b) = a := by
  unfold yQ yR
  rw [if_neg hb, if_neg hb, wrap64_add_l, ← wrap64_add_l, wrap64_mul_l, wrap64_add_l, Int.mul_comm, Int.mul_tdiv_add_tmod]
  obtain ⟨h0, h1⟩ := ha
  unfold wrap64; omega
theorem flo_back {a b : Int} (ha : isI a) (hb : ¬ b = 0) : wrap64 (wrap64 (zQ a b * b) + zR a b) = a := by
  have h := sym_back ha hb
  unfold zQ zR
  split
  · rw [wrap64_mul_l, wrap64_add_l, wrap64_add_r, Int.sub_mul, Int.one_mul]
    rw [wrap64_add_l] at h
    have e : yQ a b * b - b + (yR a b + b) = yQ a b * b + yR a b := by omega
    rw [e]; exact h
  · exact h
theorem yR_small {a b : Int} (hb : ¬ b = 0) : (yR a b).natAbs < b.natAbs := by
  unfold yR
  rw [if_neg hb, Int.natAbs_tmod]
  exact Nat.mod_lt _ (by omega)
theorem yR_sign {a b : Int} (hb : ¬ b = 0) : (0 ≤ a → 0 ≤ yR a b) ∧ (a < 0 → yR a b ≤ 0) := by
  unfold yR
  rw [if_neg hb]
  refine ⟨fun h => Int.tmod_nonneg b h, fun h => ?_⟩
  have := Int.tmod_nonneg b (show 0 ≤ -a by omega)
  rw [Int.neg_tmod] at this
  omega
/-- what is left of a floored division -/
theorem zR_cases {a b : Int} (ha : isI a) (hb : isI b) (h : ¬ b = 0) : (zR a b = 0 ∧ yR a b = 0) ∨ (¬ zR a b = 0 ∧ (decide (zR a b < 0) = decide (b < 0)) ∧ ¬ yR a b = 0 ∧ (zR a b = yR a b ∨ wrap64 (zR a b - b) = yR a b)) := by
  have h1 := yR_small (a := a) h
  have h2 := yR_is a hb
  have h3 := down_is h2 hb
  obtain ⟨b0, b1⟩ := hb
  obtain ⟨y0, y1⟩ := h2
  by_cases hd : down (yR a b) b = true
  · have e : zR a b = yR a b + b := by
      unfold zR; rw [if_pos hd]
      rw [hd] at h3
      unfold apart at h3
      have n0 : ¬ yR a b = 0 := fun z => by rw [z] at h3; simp at h3
      by_cases s0 : yR a b < 0 <;> by_cases s1 : b < 0
      · rw [decide_eq_true s0, decide_eq_true s1] at h3; simp at h3
      · unfold wrap64; omega
      · unfold wrap64; omega
      · rw [decide_eq_false s0, decide_eq_false s1] at h3; simp at h3
    rw [hd] at h3
    unfold apart at h3
    have n0 : ¬ yR a b = 0 := fun z => by rw [z] at h3; simp at h3
    right
    by_cases s0 : yR a b < 0 <;> by_cases s1 : b < 0
    · rw [decide_eq_true s0, decide_eq_true s1] at h3; simp at h3
    · refine ⟨by omega, by rw [decide_eq_false s1]; exact decide_eq_false (by omega), n0, .inr ?_⟩
      rw [e]; unfold wrap64; omega
    · refine ⟨by omega, by rw [decide_eq_true s1]; exact decide_eq_true (by omega), n0, .inr ?_⟩
      rw [e]; unfold wrap64; omega
    · rw [decide_eq_false s0, decide_eq_false s1] at h3; simp at h3
  · have e : zR a b = yR a b := by unfold zR; rw [if_neg hd]
    by_cases z : yR a b = 0
    · exact .inl ⟨by rw [e, z], z⟩
    · right
      have hd' : down (yR a b) b = false := by simpa using hd
      rw [hd'] at h3
      unfold apart at h3
      refine ⟨by rw [e]; exact z, ?_, z, .inl e⟩
      rw [e]
      have : (yR a b != 0) = true := by simp [z]
      rw [this] at h3
      cases h5 : decide (yR a b < 0) <;> cases h6 : decide (b < 0) <;> rw [h5, h6] at h3 <;> simp_all

/-- the two halves of a product with signs -/
theorem prod_lo (a b : Int) : lo64 (IntKind.u64.wrap a) (IntKind.u64.wrap b) = a * b % 18446744073709551616 := by
  unfold lo64
  rw [IntKind.wrap_u64, IntKind.wrap_u64, ← Int.mul_emod]
theorem prod_bound {a b : Int} (ha : isI a) (hb : isI b) : -85070591730234615865843651857942052864 ≤ a * b ∧ a * b ≤ 85070591730234615865843651857942052864 := by
  obtain ⟨a0, a1⟩ := ha
  obtain ⟨b0, b1⟩ := hb
  have h : (a * b).natAbs ≤ 9223372036854775808 * 9223372036854775808 := by
    rw [Int.natAbs_mul]
    exact Nat.mul_le_mul (by omega) (by omega)
  omega
theorem prod_hi {a b : Int} (ha : isI a) (hb : isI b) : tHi a b = a * b / 18446744073709551616 := by
  obtain ⟨p0, p1⟩ := prod_bound ha hb
  rw [times_hi ha hb]
  obtain ⟨a0, a1⟩ := ha
  obtain ⟨b0, b1⟩ := hb
  have ea : IntKind.u64.wrap a = if a < 0 then a + 18446744073709551616 else a := by rw [IntKind.wrap_u64]; split <;> omega
  have eb : IntKind.u64.wrap b = if b < 0 then b + 18446744073709551616 else b := by rw [IntKind.wrap_u64]; split <;> omega
  unfold rTHi hi64
  rw [ea, eb, IntKind.wrap_u64]
  by_cases s0 : a < 0 <;> by_cases s1 : b < 0 <;> simp only [s0, s1, if_true, if_false]
  · have e : (a + 18446744073709551616) * (b + 18446744073709551616) = a * b + (a + b + 18446744073709551616) * 18446744073709551616 := by
      rw [Int.add_mul, Int.mul_add, Int.mul_add]; omega
    rw [e, Int.add_mul_ediv_right _ _ (by decide)]
    generalize a * b = p at *
    unfold wrap64; omega
  · have e : (a + 18446744073709551616) * b = a * b + b * 18446744073709551616 := by rw [Int.add_mul]; omega
    rw [e, Int.add_mul_ediv_right _ _ (by decide)]
    generalize a * b = p at *
    unfold wrap64; omega
  · have e : a * (b + 18446744073709551616) = a * b + a * 18446744073709551616 := by rw [Int.mul_add]
    rw [e, Int.add_mul_ediv_right _ _ (by decide)]
    generalize a * b = p at *
    unfold wrap64; omega
  · generalize a * b = p at *
    unfold wrap64; omega
theorem uback {a b : Int} (ha : isI a) (hb : ¬ b = 0) (hb2 : isI b) :
    uq (wrap64 (lo64 (IntKind.u64.wrap a) (IntKind.u64.wrap b))) (wrap64 (hi64 (IntKind.u64.wrap a) (IntKind.u64.wrap b))) b = a ∧
    ur (wrap64 (lo64 (IntKind.u64.wrap a) (IntKind.u64.wrap b))) (wrap64 (hi64 (IntKind.u64.wrap a) (IntKind.u64.wrap b))) b = 0 ∧
    uf (wrap64 (hi64 (IntKind.u64.wrap a) (IntKind.u64.wrap b))) b = 0 := by
  have hA := isU_wrap a
  have hB := isU_wrap b
  have nz : 0 < IntKind.u64.wrap b := by
    obtain ⟨b0, b1⟩ := hb2
    rw [IntKind.wrap_u64]; omega
  unfold uq ur uf
  rw [U_of (isU_hi hA hB), U_of (isU_lo _ _)]
  have hw := wrap64_U ha
  generalize IntKind.u64.wrap a = x at *
  generalize IntKind.u64.wrap b = y at *
  obtain ⟨x0, x1⟩ := hA
  have e : hi64 x y * 18446744073709551616 + lo64 x y = x * y + 0 := by
    unfold hi64 lo64; have := Int.mul_ediv_add_emod (x * y) 18446744073709551616; omega
  have hlt : hi64 x y < y := by
    have h1 : x * y ≤ 18446744073709551615 * y := Int.mul_le_mul_of_nonneg_right (by omega) (by omega)
    obtain ⟨l0, l1⟩ := isU_lo x y
    omega
  obtain ⟨d1, d2⟩ := div_unique (N := hi64 x y * 18446744073709551616 + lo64 x y) nz e (Int.le_refl 0) nz
  rw [if_pos hlt, if_pos hlt, if_pos hlt]
  unfold quoW remW
  rw [d1, d2]
  exact ⟨hw, by decide +kernel, rfl⟩
/-- the product divided again, with signs -/
theorem sback {a b : Int} (ha : isI a) (hb : ¬ b = 0) (hb2 : isI b) :
    sQ (wrap64 (lo64 (IntKind.u64.wrap a) (IntKind.u64.wrap b))) (tHi a b) b = a ∧ sR (wrap64 (lo64 (IntKind.u64.wrap a) (IntKind.u64.wrap b))) (tHi a b) b = 0 ∧ sF (wrap64 (lo64 (IntKind.u64.wrap a) (IntKind.u64.wrap b))) (tHi a b) b = 0 := by
  obtain ⟨p0, p1⟩ := prod_bound ha hb2
  obtain ⟨l0, l1⟩ := isU_lo (IntKind.u64.wrap a) (IntKind.u64.wrap b)
  have el := prod_lo a b
  have eh := prod_hi ha hb2
  have hI : isI (tHi a b) := by rw [eh]; unfold isI; omega
  have hU := U_of (isU_lo (IntKind.u64.wrap a) (IntKind.u64.wrap b))
  generalize hL : lo64 (IntKind.u64.wrap a) (IntKind.u64.wrap b) = L at *
  generalize hH : tHi a b = Hh at *
  obtain ⟨k1, k2, k3⟩ := rudiv_hand (wrap64 L) Hh b hI
  rw [hU] at k1 k2 k3
  obtain ⟨a0, a1⟩ := ha
  obtain ⟨b0, b1⟩ := hb2
  have ws : szU b = if b < 0 then -b else b := by unfold szU; simp only [IntKind.wrap_u64]; split <;> omega
  have hP : a * b = Hh * 18446744073709551616 + L := by omega
  have hx : (if Hh < 0 then lsHi L (IntKind.u64.wrap Hh) else IntKind.u64.wrap Hh) * 18446744073709551616 + (if Hh < 0 then lsLo L else L) = if Hh < 0 then -(a * b) else a * b := by
    generalize a * b = p at *
    by_cases s : Hh < 0
    · simp only [s, if_true]
      unfold lsHi lsLo
      rw [xorU _ (isU_wrap _)]
      simp only [IntKind.wrap_u64]
      split <;> omega
    · simp only [s, if_false, IntKind.wrap_u64]
      omega
  have hs : Hh < 0 ↔ a * b < 0 := by omega
  have hpos : 0 < szU b := by rw [ws]; split <;> omega
  have habs : (if Hh < 0 then -(a * b) else a * b) = (if a < 0 then -a else a) * szU b + 0 := by
    rw [ws]
    by_cases s : Hh < 0
    · have hn := hs.1 s
      rw [if_pos s]
      by_cases s0 : a < 0 <;> by_cases s1 : b < 0
      · exfalso; have := Int.mul_pos_of_neg_of_neg s0 s1; omega
      · rw [if_pos s0, if_neg s1, Int.neg_mul]; omega
      · rw [if_neg s0, if_pos s1, Int.mul_neg]; omega
      · exfalso; have := Int.mul_nonneg (show 0 ≤ a by omega) (show 0 ≤ b by omega); omega
    · have hn : 0 ≤ a * b := by omega
      rw [if_neg s]
      by_cases s0 : a < 0 <;> by_cases s1 : b < 0
      · rw [if_pos s0, if_pos s1, Int.neg_mul_neg]; omega
      · exfalso; have := Int.mul_neg_of_neg_of_pos s0 (show 0 < b by omega); omega
      · rw [if_neg s0, if_pos s1, Int.mul_neg]
        have : a = 0 := by
          by_cases z : a = 0
          · exact z
          · exfalso; have := Int.mul_neg_of_pos_of_neg (show 0 < a by omega) s1; omega
        subst this; simp
      · rw [if_neg s0, if_neg s1]; omega
  rw [habs] at hx
  obtain ⟨d1, d2⟩ := div_unique hpos hx (Int.le_refl 0) hpos
  have hA : 0 ≤ (if a < 0 then -a else a) ∧ (if a < 0 then -a else a) ≤ 9223372036854775808 := by split <;> omega
  have hlt : (if Hh < 0 then lsHi L (IntKind.u64.wrap Hh) else IntKind.u64.wrap Hh) < szU b := by
    have h1 : (if a < 0 then -a else a) * szU b ≤ 9223372036854775808 * szU b := Int.mul_le_mul_of_nonneg_right hA.2 (by omega)
    have h2 : 0 ≤ (if Hh < 0 then lsLo L else L) := by
      split
      · exact (lsLo_is _).1
      · exact l0
    omega
  have q1 : vQ (if Hh < 0 then lsLo L else L) (if Hh < 0 then lsHi L (IntKind.u64.wrap Hh) else IntKind.u64.wrap Hh) (szU b) = if a < 0 then -a else a := by
    unfold vQ quoW; rw [if_pos hlt]; exact d1
  have r1 : vR (if Hh < 0 then lsLo L else L) (if Hh < 0 then lsHi L (IntKind.u64.wrap Hh) else IntKind.u64.wrap Hh) (szU b) = 0 := by
    unfold vR remW; rw [if_pos hlt]; exact d2
  have o1 : vOk (if Hh < 0 then lsHi L (IntKind.u64.wrap Hh) else IntKind.u64.wrap Hh) (szU b) = true := decide_eq_true hlt
  rw [o1] at k1
  rw [q1] at k2
  rw [r1] at k3
  simp only [if_true] at k1
  have w0 : wrap64 0 = 0 := by decide +kernel
  rw [w0] at k3
  unfold sQ sR sF
  rw [k1, k2, k3]
  unfold dQ dR dF
  simp only [if_true, Int.neg_zero, w0, ite_self]
  have t1 : a < 0 → b < 0 → ¬ Hh < 0 := fun h g k => by have := Int.mul_pos_of_neg_of_neg h g; omega
  have t2 : a < 0 → ¬ b < 0 → Hh < 0 := fun h g => hs.2 (Int.mul_neg_of_neg_of_pos h (by omega))
  have t3 : 0 < a → b < 0 → Hh < 0 := fun h g => hs.2 (Int.mul_neg_of_pos_of_neg h g)
  have t4 : ¬ a < 0 → ¬ b < 0 → ¬ Hh < 0 := fun h g k => by have := Int.mul_nonneg (show 0 ≤ a by omega) (show 0 ≤ b by omega); omega
  have nn : ¬ a = -9223372036854775808 → a ≤ 0 → wrap64 (-a) = -a ∧ ¬ wrap64 (-a) < 0 ∧ wrap64 (- -a) = a := fun h g => by
    refine ⟨?_, ?_, ?_⟩ <;> unfold wrap64 <;> omega
  have mm : wrap64 (- -9223372036854775808) = -9223372036854775808 := by decide +kernel
  have mp : wrap64 9223372036854775808 = -9223372036854775808 := by decide +kernel
  by_cases s : Hh < 0 <;> by_cases s0 : a < 0 <;> by_cases s1 : b < 0
  · exact absurd s (t1 s0 s1)
  · simp only [s, s0, s1, decide_true, decide_false, if_true, if_false, reduceCtorEq]
    by_cases m : a = -9223372036854775808
    · subst m; simp [mm, mp]
    · obtain ⟨n1, n2, n3⟩ := nn m (by omega)
      have q2 : ¬ 0 < a := by omega
      have q3 : wrap64 a = a := by unfold wrap64; omega
      simp [n1, q2, q3]
  · simp only [s, s0, s1, decide_true, decide_false, if_true, if_false, reduceCtorEq]
    have w1 : wrap64 a = a := by unfold wrap64; omega
    simp [w1, s0]
  · exact absurd s (t4 s0 s1)
  · simp only [s, s0, s1, decide_true, decide_false, if_true, if_false, reduceCtorEq]
    by_cases m : a = -9223372036854775808
    · subst m; simp [mm, mp]
    · obtain ⟨n1, n2, n3⟩ := nn m (by omega)
      have q2 : ¬ 0 < a := by omega
      have q3 : wrap64 a = a := by unfold wrap64; omega
      simp [n1, q2, q3]
  · exact absurd (t2 s0 s1) s
  · have z : a = 0 := by
      by_cases z : 0 < a
      · exact absurd (t3 z s1) s
      · omega
    subst z
    simp [s, s1, w0]
  · simp only [s, s0, s1, decide_true, decide_false, if_true, if_false, reduceCtorEq]
    have w1 : wrap64 a = a := by unfold wrap64; omega
    simp [w1, s0]
end Go.Proofs.Ytfifbkcgaohhbaa
