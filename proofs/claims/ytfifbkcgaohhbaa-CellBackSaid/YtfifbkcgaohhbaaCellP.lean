import Derived.WalkKit
import Derived.Lib.BitFns
namespace Go.Proofs.Ytfifbkcgaohhbaa
open Go.RowKit
set_option linter.unusedVariables false
set_option linter.unusedSimpArgs false
/-- a round of Knuth's division: what holds of the guess and of what is left -/
structure Kn (a b u v q r : Int) : Prop where
  e : q * a + r = u
  r0 : 0 ≤ r
  r1 : r < 4294967296
  lo : u * 4294967296 + v < (q + 1) * (a * 4294967296 + b)
  q0 : 0 ≤ q
  q1 : q ≤ 4294967297
/-- the guess is the quotient -/
structure Kd (a b u v q : Int) : Prop where
  lo : u * 4294967296 + v < (q + 1) * (a * 4294967296 + b)
  hi : q * (a * 4294967296 + b) ≤ u * 4294967296 + v
  q0 : 0 ≤ q
  q1 : q < 4294967296
theorem Kn.expand {a u q r : Int} (b : Int) (h : q * a + r = u) : q * (a * 4294967296 + b) = (u - r) * 4294967296 + q * b := by
  have e : u - r = q * a := by omega
  rw [e, Int.mul_add, Int.mul_assoc]
/-- the exit by the test -/
theorem Kn.done {a b u v q r : Int} (k : Kn a b u v q r) (h : q < 4294967296) (hp : q * b ≤ 4294967296 * r + v) : Kd a b u v q :=
  ⟨k.lo, by rw [Kn.expand b k.e, Int.sub_mul]; omega, k.q0, h⟩
/-- one more is taken off the guess -/
theorem Kn.less {a b u v q r : Int} (k : Kn a b u v q r) (hv : 0 ≤ v) (hu : u * 4294967296 + v < 4294967296 * (a * 4294967296 + b)) (hY : 0 ≤ a * 4294967296 + b) (h : 4294967296 ≤ q ∨ 4294967296 * r + v < q * b) :
    u * 4294967296 + v < q * (a * 4294967296 + b) ∧ 1 ≤ q := by
  have h1 : u * 4294967296 + v < q * (a * 4294967296 + b) := by
    rcases h with h | h
    · exact Int.lt_of_lt_of_le hu (Int.mul_le_mul_of_nonneg_right h hY)
    · rw [Kn.expand b k.e, Int.sub_mul]; omega
  refine ⟨h1, ?_⟩
  have q0 := k.q0
  rcases Int.lt_or_le q 1 with hq | hq
  · exfalso
    have : q = 0 := by omega
    subst this
    have e := k.e
    have r0 := k.r0
    simp at e h1
    rcases h with h | h
    · omega
    · simp at h
      omega
  · exact hq
theorem Kn.next {a b u v q r : Int} (k : Kn a b u v q r) (h : u * 4294967296 + v < q * (a * 4294967296 + b) ∧ 1 ≤ q) (ha : 0 ≤ a) (hr : r + a < 4294967296) : Kn a b u v (q - 1) (r + a) :=
  ⟨by rw [Int.sub_mul]; have := k.e; omega, by have := k.r0; omega, hr, by rw [Int.sub_add_cancel]; exact h.1, by omega, by have := k.q1; omega⟩
theorem Kn.last {a b u v q r : Int} (k : Kn a b u v q r) (h : u * 4294967296 + v < q * (a * 4294967296 + b) ∧ 1 ≤ q) (hb : 0 ≤ b) (hb1 : b ≤ 4294967295) (hv : 0 ≤ v) (hu : u * 4294967296 + v < 4294967296 * (a * 4294967296 + b)) (hY : 0 < a * 4294967296 + b) (hr : 4294967296 ≤ r + a) : Kd a b u v (q - 1) := by
  have e : (q - 1) * a + (r + a) = u := by rw [Int.sub_mul]; have := k.e; omega
  have hq := k.q1
  have hp : (q - 1) * b ≤ 4294967296 * 4294967295 := Int.mul_le_mul (by omega) hb1 hb (by omega)
  have hi : (q - 1) * (a * 4294967296 + b) ≤ u * 4294967296 + v := by
    rw [Kn.expand b e, Int.sub_mul]; omega
  refine ⟨by rw [Int.sub_add_cancel]; exact h.1, hi, by omega, ?_⟩
  rcases Int.lt_or_le (q - 1) 4294967296 with h | h
  · exact h
  · have := Int.mul_le_mul_of_nonneg_right h (Int.le_of_lt hY)
    omega
theorem Kn.prod {a b u v q r : Int} (k : Kn a b u v q r) (hb : 0 ≤ b) (hb1 : b ≤ 4294967295) : 0 ≤ q * b ∧ q * b ≤ 18446744073709551615 := by
  refine ⟨Int.mul_nonneg k.q0 hb, ?_⟩
  have : q * b ≤ 4294967297 * 4294967295 := Int.mul_le_mul k.q1 hb1 hb (by omega)
  omega
theorem Kn.start {a b u v : Int} (ha0 : 2147483648 ≤ a) (ha1 : a ≤ 4294967295) (hu0 : 0 ≤ u) (hu : u < a * 4294967296 + b) (hb0 : 0 ≤ b) (hb1 : b ≤ 4294967295) (hv0 : 0 ≤ v) (hv1 : v ≤ 4294967295) : Kn a b u v (u / a) (u % a) := by
  have h1 := Int.mul_ediv_add_emod u a
  have h2 := Int.emod_nonneg u (show a ≠ 0 by omega)
  have h3 := Int.emod_lt_of_pos u (show 0 < a by omega)
  have h4 : 0 ≤ u / a := Int.ediv_nonneg hu0 (by omega)
  have h5 : u < (u / a + 1) * a := by rw [Int.add_mul, Int.mul_comm (u / a) a]; omega
  refine ⟨by rw [Int.mul_comm]; exact h1, h2, by omega, ?_, h4, ?_⟩
  · have h6 : (u + 1) * 4294967296 ≤ (u / a + 1) * a * 4294967296 := Int.mul_le_mul_of_nonneg_right h5 (by decide)
    have h7 : 0 ≤ (u / a + 1) * b := Int.mul_nonneg (by omega) hb0
    rw [Int.mul_add, ← Int.mul_assoc]
    omega
  · have h6 : u / a < 4294967298 := Int.ediv_lt_of_lt_mul (by omega) (by omega)
    omega
theorem Kn.left {a u : Int} (ha0 : 2147483648 ≤ a) (ha1 : a ≤ 4294967295) (hu0 : 0 ≤ u) (hu1 : u ≤ 18446744073709551615) : IntKind.u64.wrap (u - IntKind.u64.wrap (u / a * a)) = u % a := by
  have h1 := Int.mul_ediv_add_emod u a
  have h2 := Int.emod_nonneg u (show a ≠ 0 by omega)
  have h3 := Int.emod_lt_of_pos u (show 0 < a by omega)
  have h4 : 0 ≤ u / a * a := Int.mul_nonneg (Int.ediv_nonneg hu0 (by omega)) (by omega)
  rw [Int.mul_comm] at h1
  rw [IntKind.wrap_u64, IntKind.wrap_u64]
  omega
/-- what is left behind a digit of the quotient -/
theorem Kd.rest {a b u v q Y : Int} (k : Kd a b u v q) (hY : Y = a * 4294967296 + b) (hY1 : Y ≤ 18446744073709551615) : 0 ≤ u * 4294967296 + v - q * Y ∧ u * 4294967296 + v - q * Y < Y ∧
    IntKind.u64.wrap (IntKind.u64.wrap (IntKind.u64.wrap (u * 4294967296) + v) - IntKind.u64.wrap (q * Y)) = u * 4294967296 + v - q * Y := by
  subst hY
  have h1 := k.lo
  have h2 := k.hi
  rw [Int.add_mul] at h1
  refine ⟨by omega, by omega, ?_⟩
  simp only [IntKind.wrap_u64]
  omega
/-- the two digits, and what is left -/
structure DivD (a b Y u v1 v0 : Int) (s : Nat) (Q R : Int) : Prop where
  ex : ∃ q x q0, Kd a b u v1 q ∧ x = u * 4294967296 + v1 - q * Y ∧ Kd a b x v0 q0 ∧ Q = q * 4294967296 + q0 ∧ R = (x * 4294967296 + v0 - q0 * Y) / 2 ^ s

theorem bitLenAux_spec : ∀ (f x : Nat), 1 ≤ x → x < 2 ^ f → 1 ≤ Lib.bitLenAux f x ∧ Lib.bitLenAux f x ≤ f ∧ 2 ^ (Lib.bitLenAux f x - 1) ≤ x ∧ x < 2 ^ Lib.bitLenAux f x
  | 0, x, h, k => by simp at k; omega
  | f + 1, x, h, k => by
    have hx : x ≠ 0 := by omega
    by_cases h1 : x = 1
    · subst h1
      have e : Lib.bitLenAux (f + 1) 1 = 1 := by cases f <;> simp [Lib.bitLenAux]
      rw [e]; simp
    · obtain ⟨a, b, c, d⟩ := bitLenAux_spec f (x / 2) (by omega) (by rw [Nat.pow_succ] at k; omega)
      have e : Lib.bitLenAux (f + 1) x = 1 + Lib.bitLenAux f (x / 2) := by simp [Lib.bitLenAux, hx]
      rw [e]
      obtain ⟨n, hn⟩ : ∃ n, Lib.bitLenAux f (x / 2) = n + 1 := ⟨Lib.bitLenAux f (x / 2) - 1, by omega⟩
      rw [hn] at b c d ⊢
      simp only [Nat.add_sub_cancel, show 1 + (n + 1) = n + 1 + 1 from by omega] at c d ⊢
      rw [Nat.pow_succ 2 (n + 1), Nat.pow_succ 2 n] at *
      omega
theorem bitLen_spec (x : Nat) (h : 1 ≤ x) (k : x < 18446744073709551616) : ∃ s : Nat, s ≤ 63 ∧ 64 - (Lib.bitLen x : Int) = s ∧ 9223372036854775808 ≤ x * 2 ^ s ∧ x * 2 ^ s < 18446744073709551616 := by
  obtain ⟨a, b, c, d⟩ := bitLenAux_spec 64 x h k
  refine ⟨64 - Lib.bitLen x, by unfold Lib.bitLen; omega, by unfold Lib.bitLen; omega, ?_, ?_⟩
  · have e : 2 ^ (Lib.bitLen x - 1) * 2 ^ (64 - Lib.bitLen x) = 9223372036854775808 := by
      rw [← Nat.pow_add, show Lib.bitLen x - 1 + (64 - Lib.bitLen x) = 63 from by unfold Lib.bitLen; omega]
    rw [← e]; exact Nat.mul_le_mul_right _ c
  · have e : 2 ^ (Lib.bitLen x) * 2 ^ (64 - Lib.bitLen x) = 18446744073709551616 := by
      rw [← Nat.pow_add, show Lib.bitLen x + (64 - Lib.bitLen x) = 64 from by unfold Lib.bitLen; omega]
    rw [← e]; exact Nat.mul_lt_mul_of_pos_right d (Nat.two_pow_pos _)
/-- the shifted dividend's upper word -/
theorem shifted (hi lo s : Nat) (hs : s ≤ 63) (h1 : hi * 2 ^ s < 18446744073709551616) (h2 : lo < 18446744073709551616) :
    hi * 2 ^ s ||| lo / 2 ^ (64 - s) = (hi * 18446744073709551616 + lo) * 2 ^ s / 18446744073709551616 := by
  have hp : 2 ^ (64 - s) * 2 ^ s = 18446744073709551616 := by rw [← Nat.pow_add, Nat.sub_add_cancel (by omega)]
  have hl : lo / 2 ^ (64 - s) < 2 ^ s := by
    rw [Nat.div_lt_iff_lt_mul (Nat.two_pow_pos _), Nat.mul_comm, hp]; exact h2
  rw [nat_join s _ _ (by simp) hl, Nat.add_mul, Nat.mul_right_comm, Nat.add_comm (hi * 2 ^ s * _), Nat.add_mul_div_right _ _ (by decide), Nat.add_comm]
  congr 1
  conv => rhs; rw [← hp]
  rw [Nat.mul_div_mul_right _ _ (Nat.two_pow_pos _)]
/-- a word that is the quotient -/
def quoW (hi lo y : Int) : Int := (hi * 18446744073709551616 + lo) / y
def remW (hi lo y : Int) : Int := (hi * 18446744073709551616 + lo) % y
theorem div_unique {N y Q R : Int} (hy : 0 < y) (h : N = Q * y + R) (h0 : 0 ≤ R) (h1 : R < y) : N / y = Q ∧ N % y = R := by
  have := Int.mul_comm Q y
  refine (Int.ediv_emod_unique hy).2 ⟨by omega, h0, h1⟩
theorem DivD.is {hi lo y a b Y u v v1 v0 Q R : Int} {s : Nat} (d : DivD a b Y u v1 v0 s Q R) (hy : 0 < y) (hY : Y = a * 4294967296 + b) (hYs : Y = y * 2 ^ s) (hY1 : Y ≤ 18446744073709551615)
    (hu : (hi * 18446744073709551616 + lo) * 2 ^ s = u * 18446744073709551616 + v) (hv : v = v1 * 4294967296 + v0) : Q = quoW hi lo y ∧ R = remW hi lo y := by
  obtain ⟨q, x, q0, k1, hx, k2, hQ, hR⟩ := d.ex
  obtain ⟨y0, y1, _⟩ := k2.rest hY hY1
  have hs : (0 : Int) < 2 ^ s := Int.pow_pos (by decide)
  have e : (hi * 18446744073709551616 + lo) * 2 ^ s = Q * Y + (x * 4294967296 + v0 - q0 * Y) := by
    rw [hu, hv, hQ, hx, Int.add_mul, Int.sub_mul, Int.mul_right_comm q 4294967296 Y]; omega
  have e2 : x * 4294967296 + v0 - q0 * Y = ((hi * 18446744073709551616 + lo) - Q * y) * 2 ^ s := by
    rw [Int.sub_mul, e, hYs, Int.mul_assoc Q]; omega
  have e3 : R = (hi * 18446744073709551616 + lo) - Q * y := by
    rw [hR, e2, Int.mul_ediv_cancel _ (by omega)]
  rw [e2, hYs] at y1
  rw [e2] at y0
  have r1 : (hi * 18446744073709551616 + lo) - Q * y < y := Int.lt_of_mul_lt_mul_right y1 (by omega)
  have r0 : 0 ≤ (hi * 18446744073709551616 + lo) - Q * y := Int.nonneg_of_mul_nonneg_left y0 hs
  obtain ⟨f1, f2⟩ := div_unique (N := hi * 18446744073709551616 + lo) hy (Q := Q) (R := hi * 18446744073709551616 + lo - Q * y) (by omega) r0 r1
  exact ⟨f1.symm, e3.trans f2.symm⟩
/-- all that the walk asks of the numbers -/
theorem div_facts (hi lo y : Int) (h0 : 0 < hi) (h1 : hi < y) (h2 : y < 18446744073709551616) (h3 : 0 ≤ lo) (h4 : lo < 18446744073709551616) : ∃ (s : Nat) (Y a b u v v1 v0 : Int), s ≤ 63 ∧ 64 - (Lib.bitLen y.toNat : Int) = s ∧ IntKind.u64.wrap (y * 2 ^ s) = Y ∧ Y / 4294967296 = a ∧ bits .and .u64 Y 4294967295 = b ∧
    bits .or .u64 (IntKind.u64.wrap (hi * 2 ^ s)) (lo / 2 ^ (64 - s)) = u ∧ IntKind.u64.wrap (lo * 2 ^ s) = v ∧ v / 4294967296 = v1 ∧ bits .and .u64 v 4294967295 = v0 ∧
    2147483648 ≤ a ∧ a ≤ 4294967295 ∧ 0 ≤ u ∧ 0 ≤ v1 ∧ v1 ≤ 4294967295 ∧ 0 ≤ b ∧ b ≤ 4294967295 ∧ Y = a * 4294967296 + b ∧ Y ≤ 18446744073709551615 ∧ 0 ≤ v0 ∧ v0 ≤ 4294967295 ∧ u < Y ∧
    Y = y * 2 ^ s ∧ (hi * 18446744073709551616 + lo) * 2 ^ s = u * 18446744073709551616 + v ∧ v = v1 * 4294967296 + v0 := by
  obtain ⟨hi, rfl⟩ := Int.eq_ofNat_of_zero_le (Int.le_of_lt h0)
  obtain ⟨lo, rfl⟩ := Int.eq_ofNat_of_zero_le h3
  obtain ⟨y, rfl⟩ := Int.eq_ofNat_of_zero_le (show 0 ≤ y by omega)
  obtain ⟨s, hs, hb, c0, c1⟩ := bitLen_spec y (by omega) (by omega)
  have hhi : hi * 2 ^ s < y * 2 ^ s := Nat.mul_lt_mul_of_pos_right (by omega) (Nat.two_pow_pos _)
  have hsh := shifted hi lo s hs (by omega) (by omega)
  have hp : 2 ^ (64 - s) * 2 ^ s = 18446744073709551616 := by rw [← Nat.pow_add, Nat.sub_add_cancel (by omega)]
  have hl : lo / 2 ^ (64 - s) < 18446744073709551616 := Nat.lt_of_le_of_lt (Nat.div_le_self _ _) (by omega)
  have cast : ∀ n : Nat, (n : Int) * 2 ^ s = ((n * 2 ^ s : Nat) : Int) := fun n => by rw [Int.natCast_mul, Int.natCast_pow]; rfl
  have ey : IntKind.u64.wrap ((y : Int) * 2 ^ s) = ((y * 2 ^ s : Nat) : Int) := by rw [cast, IntKind.wrap_u64]; exact Int.emod_eq_of_lt (Int.natCast_nonneg _) (by omega)
  have eh : IntKind.u64.wrap ((hi : Int) * 2 ^ s) = ((hi * 2 ^ s : Nat) : Int) := by rw [cast, IntKind.wrap_u64]; exact Int.emod_eq_of_lt (Int.natCast_nonneg _) (by omega)
  have el : IntKind.u64.wrap ((lo : Int) * 2 ^ s) = ((lo * 2 ^ s % 18446744073709551616 : Nat) : Int) := by rw [cast, IntKind.wrap_u64]; rfl
  have ed : (lo : Int) / 2 ^ (64 - s) = ((lo / 2 ^ (64 - s) : Nat) : Int) := by rw [Int.natCast_ediv, Int.natCast_pow]; rfl
  have em : ∀ n : Nat, n < 18446744073709551616 → bits .and .u64 (n : Int) 4294967295 = ((n % 4294967296 : Nat) : Int) := fun n hn => by
    rw [show (4294967295 : Int) = ((4294967295 : Nat) : Int) from rfl, u64_and_nat n _ hn (by decide)]
    exact congrArg Nat.cast (Nat.and_two_pow_sub_one_eq_mod n 32)
  have eo : bits .or .u64 (IntKind.u64.wrap ((hi : Int) * 2 ^ s)) ((lo : Int) / 2 ^ (64 - s)) = (((hi * 18446744073709551616 + lo) * 2 ^ s / 18446744073709551616 : Nat) : Int) := by
    rw [eh, ed, u64_or_nat _ _ (by omega) hl, hsh]
  refine ⟨s, _, _, _, _, _, _, _, hs, hb, ey, rfl, em _ c1, eo, el, rfl, em _ (Nat.mod_lt _ (by decide)), ?_⟩
  have hu : (hi * 18446744073709551616 + lo) * 2 ^ s / 18446744073709551616 < y * 2 ^ s := by
    rw [Nat.div_lt_iff_lt_mul (by decide), Nat.mul_right_comm]
    exact Nat.mul_lt_mul_of_pos_right (by omega) (Nat.two_pow_pos _)
  have hm : lo * 2 ^ s % 18446744073709551616 = (hi * 18446744073709551616 + lo) * 2 ^ s % 18446744073709551616 := by
    rw [Nat.add_mul, Nat.mul_right_comm, Nat.mul_add_mod_self_right]
  have hN : ((hi : Int) * 18446744073709551616 + lo) * 2 ^ s = (((hi * 18446744073709551616 + lo) * 2 ^ s : Nat) : Int) := by
    rw [← cast]; rfl
  rw [hN, cast]
  generalize (hi * 18446744073709551616 + lo) * 2 ^ s = N at *
  generalize lo * 2 ^ s % 18446744073709551616 = v at *
  generalize y * 2 ^ s = Y at *
  refine ⟨by omega, by omega, by omega, by omega, by omega, by omega, by omega, by omega, by omega, by omega, by omega, by omega, rfl, by omega, by omega⟩
end Go.Proofs.Ytfifbkcgaohhbaa
