import Derived.Test.YteldbkdfphkdbaaImP
import Derived.Laws.BitsAllLaws
namespace Go.Proofs.Yteldbkdfphkdbaa
open Go.RowKit
set_option linter.unusedVariables false
set_option linter.unusedSimpArgs false
/-! a byte of a word taken out, another one laid in -/
theorem and_high (n j : Nat) (hj : j ≤ 64) (hn : n < 2 ^ 64) : n &&& (2 ^ 64 - 2 ^ j) = n - n % 2 ^ j := by
  have hp : 2 ^ j ≤ 2 ^ 64 := Nat.pow_le_pow_right (by decide) hj
  have hj0 : 0 < 2 ^ j := Nat.two_pow_pos j
  have hdvd : (2 ^ 64 - 2 ^ j) % 2 ^ j = 0 := by
    have : 2 ^ 64 = 2 ^ j * 2 ^ (64 - j) := by rw [← Nat.pow_add]; congr 1; omega
    rw [this]
    have h2 : 2 ^ j * 2 ^ (64 - j) - 2 ^ j = 2 ^ j * (2 ^ (64 - j) - 1) := by rw [Nat.mul_sub, Nat.mul_one]
    rw [h2, Nat.mul_mod_right]
  have e1 : (2 ^ 64 - 2 ^ j) ||| (2 ^ j - 1) = 2 ^ 64 - 1 := by
    rw [nat_join j _ _ hdvd (by omega)]; omega
  have e2 : n = (n &&& (2 ^ 64 - 2 ^ j)) ||| (n % 2 ^ j) := by
    rw [← Nat.and_two_pow_sub_one_eq_mod, ← Nat.and_or_distrib_left, e1, Nat.and_two_pow_sub_one_eq_mod]
    exact (Nat.mod_eq_of_lt hn).symm
  have e3 : (n &&& (2 ^ 64 - 2 ^ j)) % 2 ^ j = 0 := by
    rw [Nat.and_mod_two_pow, hdvd, Nat.and_zero]
  have e4 := nat_join j (n &&& (2 ^ 64 - 2 ^ j)) (n % 2 ^ j) e3 (Nat.mod_lt _ hj0)
  rw [← e2] at e4
  omega
theorem byte_in (n j c : Nat) (hj : j ≤ 56) (hn : n < 2 ^ 64) (hc : c < 256) : (n &&& (2 ^ 64 - 1 - 255 * 2 ^ j)) ||| (c * 2 ^ j) = n - n % 2 ^ (j + 8) + c * 2 ^ j + n % 2 ^ j := by
  have hp : 2 ^ (j + 8) = 256 * 2 ^ j := by rw [Nat.pow_add, Nat.mul_comm]
  have hle : 2 ^ (j + 8) ≤ 2 ^ 64 := Nat.pow_le_pow_right (by decide) (by omega)
  have hj0 : 0 < 2 ^ j := Nat.two_pow_pos j
  have hd8 : (2 ^ 64 - 2 ^ (j + 8)) % 2 ^ (j + 8) = 0 := by
    have : 2 ^ 64 = 2 ^ (j + 8) * 2 ^ (64 - (j + 8)) := by rw [← Nat.pow_add]; congr 1; omega
    rw [this]
    have h2 : 2 ^ (j + 8) * 2 ^ (64 - (j + 8)) - 2 ^ (j + 8) = 2 ^ (j + 8) * (2 ^ (64 - (j + 8)) - 1) := by rw [Nat.mul_sub, Nat.mul_one]
    rw [h2, Nat.mul_mod_right]
  have em : 2 ^ 64 - 1 - 255 * 2 ^ j = (2 ^ 64 - 2 ^ (j + 8)) ||| (2 ^ j - 1) := by
    rw [nat_join (j + 8) _ _ hd8 (by omega)]; omega
  have hh : n - n % 2 ^ (j + 8) = 2 ^ (j + 8) * (n / 2 ^ (j + 8)) := by
    have := Nat.mod_add_div n (2 ^ (j + 8)); omega
  have hhm : (n - n % 2 ^ (j + 8)) % 2 ^ (j + 8) = 0 := by rw [hh, Nat.mul_mod_right]
  have hlo : n % 2 ^ j < 2 ^ j := Nat.mod_lt _ hj0
  have hcm : c * 2 ^ j ≤ 255 * 2 ^ j := Nat.mul_le_mul (by omega) (Nat.le_refl _)
  have hcl : (c * 2 ^ j) ||| (n % 2 ^ j) = c * 2 ^ j + n % 2 ^ j := nat_join j _ _ (by rw [Nat.mul_mod_left]) hlo
  rw [em, Nat.and_or_distrib_left, Nat.and_two_pow_sub_one_eq_mod, and_high n (j + 8) (by omega) hn, Nat.or_assoc, Nat.or_comm (n % 2 ^ j), hcl, nat_join (j + 8) _ _ hhm (by omega)]
  omega
theorem i64_and255 (n : Int) : bits .and .i64 n 255 = n % 256 := by
  have h7 : (BitVec.ofInt 64 255).toNat = 2 ^ 8 - 1 := by decide
  have e : bits .and .i64 n 255 = IntKind.i64.wrap ((BitVec.ofInt 64 n &&& BitVec.ofInt 64 255).toNat : Int) := rfl
  rw [e, BitVec.toNat_and, h7, Nat.and_two_pow_sub_one_eq_mod, BitVec.toNat_ofInt, IntKind.wrap_i64]
  omega
theorem ofInt_wrap (m : Nat) (h : m < 2 ^ 64) : (BitVec.ofInt 64 (IntKind.i64.wrap (m : Int))).toNat = m := by
  rw [BitVec.toNat_ofInt, IntKind.wrap_i64]
  omega
theorem set_byte (v : Int) (n j : Nat) (mi yi : Int) (c : Nat) (hn : n = (v % 18446744073709551616).toNat) (hj : j ≤ 56) (hm : (BitVec.ofInt 64 mi).toNat = 255 * 2 ^ j) (hy : (BitVec.ofInt 64 yi).toNat = c * 2 ^ j) (hc : c < 256) :
    bits .or .i64 (bits .andNot .i64 v mi) yi = wrap64 ((n - n % 2 ^ (j + 8) + c * 2 ^ j + n % 2 ^ j : Nat) : Int) := by
  have hnl : n < 2 ^ 64 := by omega
  have hvn : (BitVec.ofInt 64 v).toNat = n := by rw [BitVec.toNat_ofInt, hn]; rfl
  have e1 : bits .andNot .i64 v mi = IntKind.i64.wrap ((n &&& (2 ^ 64 - 1 - 255 * 2 ^ j) : Nat) : Int) := by
    show IntKind.i64.wrap ((BitVec.ofInt 64 v &&& ~~~ BitVec.ofInt 64 mi).toNat : Int) = _
    rw [BitVec.toNat_and, BitVec.toNat_not, hm, hvn]
  have hb : n &&& (2 ^ 64 - 1 - 255 * 2 ^ j) < 2 ^ 64 := Nat.lt_of_le_of_lt Nat.and_le_left hnl
  have e2 : bits .or .i64 (bits .andNot .i64 v mi) yi = IntKind.i64.wrap (((BitVec.ofInt 64 (bits .andNot .i64 v mi)) ||| BitVec.ofInt 64 yi).toNat : Int) := rfl
  rw [e2, BitVec.toNat_or, e1, ofInt_wrap _ hb, hy, byte_in n j c hj hnl hc, wrap64_of]
theorem by8_at (v : Int) (k : Nat) (hk : k < 8) (c : UInt8) : ((((by8 v).set k c).getD k 0).toNat : Int) = c.toNat ∧ ∀ i, i < 8 → i ≠ k → ((((by8 v).set k c).getD i 0).toNat : Int) = v / 256 ^ i % 256 := by
  refine ⟨?_, fun i hi hne => ?_⟩
  · rw [getD_set, if_pos ⟨rfl, by rw [by8_length]; exact hk⟩]
  · rw [getD_set, if_neg (by omega), List.getD_eq_getElem?_getD, List.getElem?_eq_getElem (by rw [by8_length]; exact hi)]
    simp [by8]; omega
theorem by8_get (v : Int) (k : Nat) (hk : k < 8) : (((by8 v).getD k 0).toNat : Int) = v / 256 ^ k % 256 := by
  rw [List.getD_eq_getElem?_getD, List.getElem?_eq_getElem (by rw [by8_length]; exact hk)]
  simp [by8]; omega
theorem pow256 : (256 : Int) ^ 0 = 1 ∧ (256 : Int) ^ 1 = 256 ∧ (256 : Int) ^ 2 = 65536 ∧ (256 : Int) ^ 3 = 16777216 ∧ (256 : Int) ^ 4 = 4294967296 ∧ (256 : Int) ^ 5 = 1099511627776 ∧ (256 : Int) ^ 6 = 281474976710656 ∧ (256 : Int) ^ 7 = 72057594037927936 := by decide +kernel
/-- a word's digits -/
theorem digits8 (n : Nat) (h : n < 18446744073709551616) : ∃ d0 d1 d2 d3 d4 d5 d6 d7 : Nat, n = d0 + 256 * d1 + 65536 * d2 + 16777216 * d3 + 4294967296 * d4 + 1099511627776 * d5 + 281474976710656 * d6 + 72057594037927936 * d7 ∧ d0 < 256 ∧ d1 < 256 ∧ d2 < 256 ∧ d3 < 256 ∧ d4 < 256 ∧ d5 < 256 ∧ d6 < 256 ∧ d7 < 256 :=
  ⟨n % 256, n / 256 % 256, n / 65536 % 256, n / 16777216 % 256, n / 4294967296 % 256, n / 1099511627776 % 256, n / 281474976710656 % 256, n / 72057594037927936 % 256, by omega, by omega, by omega, by omega, by omega, by omega, by omega, by omega, by omega⟩
theorem digits_v (v : Int) (n d0 d1 d2 d3 d4 d5 d6 d7 : Nat) (hn : n = (v % 18446744073709551616).toNat) (h : n = d0 + 256 * d1 + 65536 * d2 + 16777216 * d3 + 4294967296 * d4 + 1099511627776 * d5 + 281474976710656 * d6 + 72057594037927936 * d7) (h0 : d0 < 256) (h1 : d1 < 256) (h2 : d2 < 256) (h3 : d3 < 256) (h4 : d4 < 256) (h5 : d5 < 256) (h6 : d6 < 256) (h7 : d7 < 256) :
    v % 256 = d0 ∧ v / 256 % 256 = d1 ∧ v / 65536 % 256 = d2 ∧ v / 16777216 % 256 = d3 ∧ v / 4294967296 % 256 = d4 ∧ v / 1099511627776 % 256 = d5 ∧ v / 281474976710656 % 256 = d6 ∧ v / 72057594037927936 % 256 = d7 := by
  obtain ⟨q, hq⟩ : ∃ q : Int, v = (n : Int) + 18446744073709551616 * q := ⟨v / 18446744073709551616, by omega⟩
  subst hq
  clear hn
  subst h
  refine ⟨by omega, by omega, by omega, by omega, by omega, by omega, by omega, by omega⟩
theorem ofInt_at0 (c : UInt8) : (BitVec.ofInt 64 (c.toNat : Int)).toNat = c.toNat * 2 ^ 0 := by
  have hc := c.toNat_lt
  rw [BitVec.toNat_ofInt, show (2 : Nat) ^ 0 = 1 from by decide +kernel, show (2 : Nat) ^ 64 = 18446744073709551616 from by decide +kernel]
  skip
  omega
theorem cell_set0 (v : Int) (c : UInt8) : bits .or .i64 (bits .andNot .i64 v (255)) (c.toNat : Int) = cel ((by8 v).set 0 c) 0 := by
  obtain ⟨p0, p1, p2, p3, p4, p5, p6, p7⟩ := pow256
  obtain ⟨n, hn⟩ : ∃ n, n = (v % 18446744073709551616).toNat := ⟨_, rfl⟩
  have hc := c.toNat_lt
  obtain ⟨d0, d1, d2, d3, d4, d5, d6, d7, hd, h0, h1, h2, h3, h4, h5, h6, h7⟩ := digits8 n (by omega)
  obtain ⟨v0, v1, v2, v3, v4, v5, v6, v7⟩ := digits_v v n d0 d1 d2 d3 d4 d5 d6 d7 hn hd h0 h1 h2 h3 h4 h5 h6 h7
  rw [set_byte v n 0 (255) (c.toNat : Int) c.toNat hn (by decide) (by decide +kernel) (ofInt_at0 c) hc]
  obtain ⟨ek, eo⟩ := by8_at v 0 (by decide) c
  unfold cel hor
  rw [show ((((by8 v).set 0 c).getD (0) 0).toNat : Int) = (c.toNat : Int) from ek, show ((((by8 v).set 0 c).getD (0 + 1) 0).toNat : Int) = (d1 : Int) from (eo 1 (by decide) (by decide)).trans (by rw [p1]; exact v1), show ((((by8 v).set 0 c).getD (0 + 2) 0).toNat : Int) = (d2 : Int) from (eo 2 (by decide) (by decide)).trans (by rw [p2]; exact v2), show ((((by8 v).set 0 c).getD (0 + 3) 0).toNat : Int) = (d3 : Int) from (eo 3 (by decide) (by decide)).trans (by rw [p3]; exact v3), show ((((by8 v).set 0 c).getD (0 + 4) 0).toNat : Int) = (d4 : Int) from (eo 4 (by decide) (by decide)).trans (by rw [p4]; exact v4), show ((((by8 v).set 0 c).getD (0 + 5) 0).toNat : Int) = (d5 : Int) from (eo 5 (by decide) (by decide)).trans (by rw [p5]; exact v5), show ((((by8 v).set 0 c).getD (0 + 6) 0).toNat : Int) = (d6 : Int) from (eo 6 (by decide) (by decide)).trans (by rw [p6]; exact v6), show ((((by8 v).set 0 c).getD (0 + 7) 0).toNat : Int) = (d7 : Int) from (eo 7 (by decide) (by decide)).trans (by rw [p7]; exact v7)]
  congr 1
  clear ek eo v0 v1 v2 v3 v4 v5 v6 v7 hn p0 p1 p2 p3 p4 p5 p6 p7
  subst hd
  simp only [show (2 : Nat) ^ (0 + 8) = 256 from by decide +kernel, show (2 : Nat) ^ 0 = 1 from by decide +kernel]
  omega
theorem ofInt_at1 (c : UInt8) : (BitVec.ofInt 64 ((c.toNat : Int) * 256)).toNat = c.toNat * 2 ^ 8 := by
  have hc := c.toNat_lt
  rw [BitVec.toNat_ofInt, show (2 : Nat) ^ 8 = 256 from by decide +kernel, show (2 : Nat) ^ 64 = 18446744073709551616 from by decide +kernel]
  skip
  omega
theorem cell_set1 (v : Int) (c : UInt8) : bits .or .i64 (bits .andNot .i64 v (65280)) ((c.toNat : Int) * 256) = cel ((by8 v).set 1 c) 0 := by
  obtain ⟨p0, p1, p2, p3, p4, p5, p6, p7⟩ := pow256
  obtain ⟨n, hn⟩ : ∃ n, n = (v % 18446744073709551616).toNat := ⟨_, rfl⟩
  have hc := c.toNat_lt
  obtain ⟨d0, d1, d2, d3, d4, d5, d6, d7, hd, h0, h1, h2, h3, h4, h5, h6, h7⟩ := digits8 n (by omega)
  obtain ⟨v0, v1, v2, v3, v4, v5, v6, v7⟩ := digits_v v n d0 d1 d2 d3 d4 d5 d6 d7 hn hd h0 h1 h2 h3 h4 h5 h6 h7
  rw [set_byte v n 8 (65280) ((c.toNat : Int) * 256) c.toNat hn (by decide) (by decide +kernel) (ofInt_at1 c) hc]
  obtain ⟨ek, eo⟩ := by8_at v 1 (by decide) c
  unfold cel hor
  rw [show ((((by8 v).set 1 c).getD (0) 0).toNat : Int) = (d0 : Int) from (eo 0 (by decide) (by decide)).trans (by rw [p0, Int.ediv_one]; exact v0), show ((((by8 v).set 1 c).getD (0 + 1) 0).toNat : Int) = (c.toNat : Int) from ek, show ((((by8 v).set 1 c).getD (0 + 2) 0).toNat : Int) = (d2 : Int) from (eo 2 (by decide) (by decide)).trans (by rw [p2]; exact v2), show ((((by8 v).set 1 c).getD (0 + 3) 0).toNat : Int) = (d3 : Int) from (eo 3 (by decide) (by decide)).trans (by rw [p3]; exact v3), show ((((by8 v).set 1 c).getD (0 + 4) 0).toNat : Int) = (d4 : Int) from (eo 4 (by decide) (by decide)).trans (by rw [p4]; exact v4), show ((((by8 v).set 1 c).getD (0 + 5) 0).toNat : Int) = (d5 : Int) from (eo 5 (by decide) (by decide)).trans (by rw [p5]; exact v5), show ((((by8 v).set 1 c).getD (0 + 6) 0).toNat : Int) = (d6 : Int) from (eo 6 (by decide) (by decide)).trans (by rw [p6]; exact v6), show ((((by8 v).set 1 c).getD (0 + 7) 0).toNat : Int) = (d7 : Int) from (eo 7 (by decide) (by decide)).trans (by rw [p7]; exact v7)]
  congr 1
  clear ek eo v0 v1 v2 v3 v4 v5 v6 v7 hn p0 p1 p2 p3 p4 p5 p6 p7
  subst hd
  simp only [show (2 : Nat) ^ (8 + 8) = 65536 from by decide +kernel, show (2 : Nat) ^ 8 = 256 from by decide +kernel]
  omega
theorem ofInt_at2 (c : UInt8) : (BitVec.ofInt 64 ((c.toNat : Int) * 65536)).toNat = c.toNat * 2 ^ 16 := by
  have hc := c.toNat_lt
  rw [BitVec.toNat_ofInt, show (2 : Nat) ^ 16 = 65536 from by decide +kernel, show (2 : Nat) ^ 64 = 18446744073709551616 from by decide +kernel]
  skip
  omega
theorem cell_set2 (v : Int) (c : UInt8) : bits .or .i64 (bits .andNot .i64 v (16711680)) ((c.toNat : Int) * 65536) = cel ((by8 v).set 2 c) 0 := by
  obtain ⟨p0, p1, p2, p3, p4, p5, p6, p7⟩ := pow256
  obtain ⟨n, hn⟩ : ∃ n, n = (v % 18446744073709551616).toNat := ⟨_, rfl⟩
  have hc := c.toNat_lt
  obtain ⟨d0, d1, d2, d3, d4, d5, d6, d7, hd, h0, h1, h2, h3, h4, h5, h6, h7⟩ := digits8 n (by omega)
  obtain ⟨v0, v1, v2, v3, v4, v5, v6, v7⟩ := digits_v v n d0 d1 d2 d3 d4 d5 d6 d7 hn hd h0 h1 h2 h3 h4 h5 h6 h7
  rw [set_byte v n 16 (16711680) ((c.toNat : Int) * 65536) c.toNat hn (by decide) (by decide +kernel) (ofInt_at2 c) hc]
  obtain ⟨ek, eo⟩ := by8_at v 2 (by decide) c
  unfold cel hor
  rw [show ((((by8 v).set 2 c).getD (0) 0).toNat : Int) = (d0 : Int) from (eo 0 (by decide) (by decide)).trans (by rw [p0, Int.ediv_one]; exact v0), show ((((by8 v).set 2 c).getD (0 + 1) 0).toNat : Int) = (d1 : Int) from (eo 1 (by decide) (by decide)).trans (by rw [p1]; exact v1), show ((((by8 v).set 2 c).getD (0 + 2) 0).toNat : Int) = (c.toNat : Int) from ek, show ((((by8 v).set 2 c).getD (0 + 3) 0).toNat : Int) = (d3 : Int) from (eo 3 (by decide) (by decide)).trans (by rw [p3]; exact v3), show ((((by8 v).set 2 c).getD (0 + 4) 0).toNat : Int) = (d4 : Int) from (eo 4 (by decide) (by decide)).trans (by rw [p4]; exact v4), show ((((by8 v).set 2 c).getD (0 + 5) 0).toNat : Int) = (d5 : Int) from (eo 5 (by decide) (by decide)).trans (by rw [p5]; exact v5), show ((((by8 v).set 2 c).getD (0 + 6) 0).toNat : Int) = (d6 : Int) from (eo 6 (by decide) (by decide)).trans (by rw [p6]; exact v6), show ((((by8 v).set 2 c).getD (0 + 7) 0).toNat : Int) = (d7 : Int) from (eo 7 (by decide) (by decide)).trans (by rw [p7]; exact v7)]
  congr 1
  clear ek eo v0 v1 v2 v3 v4 v5 v6 v7 hn p0 p1 p2 p3 p4 p5 p6 p7
  subst hd
  simp only [show (2 : Nat) ^ (16 + 8) = 16777216 from by decide +kernel, show (2 : Nat) ^ 16 = 65536 from by decide +kernel]
  omega
theorem ofInt_at3 (c : UInt8) : (BitVec.ofInt 64 ((c.toNat : Int) * 16777216)).toNat = c.toNat * 2 ^ 24 := by
  have hc := c.toNat_lt
  rw [BitVec.toNat_ofInt, show (2 : Nat) ^ 24 = 16777216 from by decide +kernel, show (2 : Nat) ^ 64 = 18446744073709551616 from by decide +kernel]
  skip
  omega
theorem cell_set3 (v : Int) (c : UInt8) : bits .or .i64 (bits .andNot .i64 v (4278190080)) ((c.toNat : Int) * 16777216) = cel ((by8 v).set 3 c) 0 := by
  obtain ⟨p0, p1, p2, p3, p4, p5, p6, p7⟩ := pow256
  obtain ⟨n, hn⟩ : ∃ n, n = (v % 18446744073709551616).toNat := ⟨_, rfl⟩
  have hc := c.toNat_lt
  obtain ⟨d0, d1, d2, d3, d4, d5, d6, d7, hd, h0, h1, h2, h3, h4, h5, h6, h7⟩ := digits8 n (by omega)
  obtain ⟨v0, v1, v2, v3, v4, v5, v6, v7⟩ := digits_v v n d0 d1 d2 d3 d4 d5 d6 d7 hn hd h0 h1 h2 h3 h4 h5 h6 h7
  rw [set_byte v n 24 (4278190080) ((c.toNat : Int) * 16777216) c.toNat hn (by decide) (by decide +kernel) (ofInt_at3 c) hc]
  obtain ⟨ek, eo⟩ := by8_at v 3 (by decide) c
  unfold cel hor
  rw [show ((((by8 v).set 3 c).getD (0) 0).toNat : Int) = (d0 : Int) from (eo 0 (by decide) (by decide)).trans (by rw [p0, Int.ediv_one]; exact v0), show ((((by8 v).set 3 c).getD (0 + 1) 0).toNat : Int) = (d1 : Int) from (eo 1 (by decide) (by decide)).trans (by rw [p1]; exact v1), show ((((by8 v).set 3 c).getD (0 + 2) 0).toNat : Int) = (d2 : Int) from (eo 2 (by decide) (by decide)).trans (by rw [p2]; exact v2), show ((((by8 v).set 3 c).getD (0 + 3) 0).toNat : Int) = (c.toNat : Int) from ek, show ((((by8 v).set 3 c).getD (0 + 4) 0).toNat : Int) = (d4 : Int) from (eo 4 (by decide) (by decide)).trans (by rw [p4]; exact v4), show ((((by8 v).set 3 c).getD (0 + 5) 0).toNat : Int) = (d5 : Int) from (eo 5 (by decide) (by decide)).trans (by rw [p5]; exact v5), show ((((by8 v).set 3 c).getD (0 + 6) 0).toNat : Int) = (d6 : Int) from (eo 6 (by decide) (by decide)).trans (by rw [p6]; exact v6), show ((((by8 v).set 3 c).getD (0 + 7) 0).toNat : Int) = (d7 : Int) from (eo 7 (by decide) (by decide)).trans (by rw [p7]; exact v7)]
  congr 1
  clear ek eo v0 v1 v2 v3 v4 v5 v6 v7 hn p0 p1 p2 p3 p4 p5 p6 p7
  subst hd
  simp only [show (2 : Nat) ^ (24 + 8) = 4294967296 from by decide +kernel, show (2 : Nat) ^ 24 = 16777216 from by decide +kernel]
  omega
theorem ofInt_at4 (c : UInt8) : (BitVec.ofInt 64 ((c.toNat : Int) * 4294967296)).toNat = c.toNat * 2 ^ 32 := by
  have hc := c.toNat_lt
  rw [BitVec.toNat_ofInt, show (2 : Nat) ^ 32 = 4294967296 from by decide +kernel, show (2 : Nat) ^ 64 = 18446744073709551616 from by decide +kernel]
  skip
  omega
theorem cell_set4 (v : Int) (c : UInt8) : bits .or .i64 (bits .andNot .i64 v (1095216660480)) ((c.toNat : Int) * 4294967296) = cel ((by8 v).set 4 c) 0 := by
  obtain ⟨p0, p1, p2, p3, p4, p5, p6, p7⟩ := pow256
  obtain ⟨n, hn⟩ : ∃ n, n = (v % 18446744073709551616).toNat := ⟨_, rfl⟩
  have hc := c.toNat_lt
  obtain ⟨d0, d1, d2, d3, d4, d5, d6, d7, hd, h0, h1, h2, h3, h4, h5, h6, h7⟩ := digits8 n (by omega)
  obtain ⟨v0, v1, v2, v3, v4, v5, v6, v7⟩ := digits_v v n d0 d1 d2 d3 d4 d5 d6 d7 hn hd h0 h1 h2 h3 h4 h5 h6 h7
  rw [set_byte v n 32 (1095216660480) ((c.toNat : Int) * 4294967296) c.toNat hn (by decide) (by decide +kernel) (ofInt_at4 c) hc]
  obtain ⟨ek, eo⟩ := by8_at v 4 (by decide) c
  unfold cel hor
  rw [show ((((by8 v).set 4 c).getD (0) 0).toNat : Int) = (d0 : Int) from (eo 0 (by decide) (by decide)).trans (by rw [p0, Int.ediv_one]; exact v0), show ((((by8 v).set 4 c).getD (0 + 1) 0).toNat : Int) = (d1 : Int) from (eo 1 (by decide) (by decide)).trans (by rw [p1]; exact v1), show ((((by8 v).set 4 c).getD (0 + 2) 0).toNat : Int) = (d2 : Int) from (eo 2 (by decide) (by decide)).trans (by rw [p2]; exact v2), show ((((by8 v).set 4 c).getD (0 + 3) 0).toNat : Int) = (d3 : Int) from (eo 3 (by decide) (by decide)).trans (by rw [p3]; exact v3), show ((((by8 v).set 4 c).getD (0 + 4) 0).toNat : Int) = (c.toNat : Int) from ek, show ((((by8 v).set 4 c).getD (0 + 5) 0).toNat : Int) = (d5 : Int) from (eo 5 (by decide) (by decide)).trans (by rw [p5]; exact v5), show ((((by8 v).set 4 c).getD (0 + 6) 0).toNat : Int) = (d6 : Int) from (eo 6 (by decide) (by decide)).trans (by rw [p6]; exact v6), show ((((by8 v).set 4 c).getD (0 + 7) 0).toNat : Int) = (d7 : Int) from (eo 7 (by decide) (by decide)).trans (by rw [p7]; exact v7)]
  congr 1
  clear ek eo v0 v1 v2 v3 v4 v5 v6 v7 hn p0 p1 p2 p3 p4 p5 p6 p7
  subst hd
  simp only [show (2 : Nat) ^ (32 + 8) = 1099511627776 from by decide +kernel, show (2 : Nat) ^ 32 = 4294967296 from by decide +kernel]
  omega
theorem ofInt_at5 (c : UInt8) : (BitVec.ofInt 64 ((c.toNat : Int) * 1099511627776)).toNat = c.toNat * 2 ^ 40 := by
  have hc := c.toNat_lt
  rw [BitVec.toNat_ofInt, show (2 : Nat) ^ 40 = 1099511627776 from by decide +kernel, show (2 : Nat) ^ 64 = 18446744073709551616 from by decide +kernel]
  skip
  omega
theorem cell_set5 (v : Int) (c : UInt8) : bits .or .i64 (bits .andNot .i64 v (280375465082880)) ((c.toNat : Int) * 1099511627776) = cel ((by8 v).set 5 c) 0 := by
  obtain ⟨p0, p1, p2, p3, p4, p5, p6, p7⟩ := pow256
  obtain ⟨n, hn⟩ : ∃ n, n = (v % 18446744073709551616).toNat := ⟨_, rfl⟩
  have hc := c.toNat_lt
  obtain ⟨d0, d1, d2, d3, d4, d5, d6, d7, hd, h0, h1, h2, h3, h4, h5, h6, h7⟩ := digits8 n (by omega)
  obtain ⟨v0, v1, v2, v3, v4, v5, v6, v7⟩ := digits_v v n d0 d1 d2 d3 d4 d5 d6 d7 hn hd h0 h1 h2 h3 h4 h5 h6 h7
  rw [set_byte v n 40 (280375465082880) ((c.toNat : Int) * 1099511627776) c.toNat hn (by decide) (by decide +kernel) (ofInt_at5 c) hc]
  obtain ⟨ek, eo⟩ := by8_at v 5 (by decide) c
  unfold cel hor
  rw [show ((((by8 v).set 5 c).getD (0) 0).toNat : Int) = (d0 : Int) from (eo 0 (by decide) (by decide)).trans (by rw [p0, Int.ediv_one]; exact v0), show ((((by8 v).set 5 c).getD (0 + 1) 0).toNat : Int) = (d1 : Int) from (eo 1 (by decide) (by decide)).trans (by rw [p1]; exact v1), show ((((by8 v).set 5 c).getD (0 + 2) 0).toNat : Int) = (d2 : Int) from (eo 2 (by decide) (by decide)).trans (by rw [p2]; exact v2), show ((((by8 v).set 5 c).getD (0 + 3) 0).toNat : Int) = (d3 : Int) from (eo 3 (by decide) (by decide)).trans (by rw [p3]; exact v3), show ((((by8 v).set 5 c).getD (0 + 4) 0).toNat : Int) = (d4 : Int) from (eo 4 (by decide) (by decide)).trans (by rw [p4]; exact v4), show ((((by8 v).set 5 c).getD (0 + 5) 0).toNat : Int) = (c.toNat : Int) from ek, show ((((by8 v).set 5 c).getD (0 + 6) 0).toNat : Int) = (d6 : Int) from (eo 6 (by decide) (by decide)).trans (by rw [p6]; exact v6), show ((((by8 v).set 5 c).getD (0 + 7) 0).toNat : Int) = (d7 : Int) from (eo 7 (by decide) (by decide)).trans (by rw [p7]; exact v7)]
  congr 1
  clear ek eo v0 v1 v2 v3 v4 v5 v6 v7 hn p0 p1 p2 p3 p4 p5 p6 p7
  subst hd
  simp only [show (2 : Nat) ^ (40 + 8) = 281474976710656 from by decide +kernel, show (2 : Nat) ^ 40 = 1099511627776 from by decide +kernel]
  omega
theorem ofInt_at6 (c : UInt8) : (BitVec.ofInt 64 ((c.toNat : Int) * 281474976710656)).toNat = c.toNat * 2 ^ 48 := by
  have hc := c.toNat_lt
  rw [BitVec.toNat_ofInt, show (2 : Nat) ^ 48 = 281474976710656 from by decide +kernel, show (2 : Nat) ^ 64 = 18446744073709551616 from by decide +kernel]
  skip
  omega
theorem cell_set6 (v : Int) (c : UInt8) : bits .or .i64 (bits .andNot .i64 v (71776119061217280)) ((c.toNat : Int) * 281474976710656) = cel ((by8 v).set 6 c) 0 := by
  obtain ⟨p0, p1, p2, p3, p4, p5, p6, p7⟩ := pow256
  obtain ⟨n, hn⟩ : ∃ n, n = (v % 18446744073709551616).toNat := ⟨_, rfl⟩
  have hc := c.toNat_lt
  obtain ⟨d0, d1, d2, d3, d4, d5, d6, d7, hd, h0, h1, h2, h3, h4, h5, h6, h7⟩ := digits8 n (by omega)
  obtain ⟨v0, v1, v2, v3, v4, v5, v6, v7⟩ := digits_v v n d0 d1 d2 d3 d4 d5 d6 d7 hn hd h0 h1 h2 h3 h4 h5 h6 h7
  rw [set_byte v n 48 (71776119061217280) ((c.toNat : Int) * 281474976710656) c.toNat hn (by decide) (by decide +kernel) (ofInt_at6 c) hc]
  obtain ⟨ek, eo⟩ := by8_at v 6 (by decide) c
  unfold cel hor
  rw [show ((((by8 v).set 6 c).getD (0) 0).toNat : Int) = (d0 : Int) from (eo 0 (by decide) (by decide)).trans (by rw [p0, Int.ediv_one]; exact v0), show ((((by8 v).set 6 c).getD (0 + 1) 0).toNat : Int) = (d1 : Int) from (eo 1 (by decide) (by decide)).trans (by rw [p1]; exact v1), show ((((by8 v).set 6 c).getD (0 + 2) 0).toNat : Int) = (d2 : Int) from (eo 2 (by decide) (by decide)).trans (by rw [p2]; exact v2), show ((((by8 v).set 6 c).getD (0 + 3) 0).toNat : Int) = (d3 : Int) from (eo 3 (by decide) (by decide)).trans (by rw [p3]; exact v3), show ((((by8 v).set 6 c).getD (0 + 4) 0).toNat : Int) = (d4 : Int) from (eo 4 (by decide) (by decide)).trans (by rw [p4]; exact v4), show ((((by8 v).set 6 c).getD (0 + 5) 0).toNat : Int) = (d5 : Int) from (eo 5 (by decide) (by decide)).trans (by rw [p5]; exact v5), show ((((by8 v).set 6 c).getD (0 + 6) 0).toNat : Int) = (c.toNat : Int) from ek, show ((((by8 v).set 6 c).getD (0 + 7) 0).toNat : Int) = (d7 : Int) from (eo 7 (by decide) (by decide)).trans (by rw [p7]; exact v7)]
  congr 1
  clear ek eo v0 v1 v2 v3 v4 v5 v6 v7 hn p0 p1 p2 p3 p4 p5 p6 p7
  subst hd
  simp only [show (2 : Nat) ^ (48 + 8) = 72057594037927936 from by decide +kernel, show (2 : Nat) ^ 48 = 281474976710656 from by decide +kernel]
  omega
theorem ofInt_at7 (c : UInt8) : (BitVec.ofInt 64 (wrap64 ((c.toNat : Int) * 72057594037927936))).toNat = c.toNat * 2 ^ 56 := by
  have hc := c.toNat_lt
  rw [BitVec.toNat_ofInt, show (2 : Nat) ^ 56 = 72057594037927936 from by decide +kernel, show (2 : Nat) ^ 64 = 18446744073709551616 from by decide +kernel]
  unfold wrap64
  omega
theorem cell_set7 (v : Int) (c : UInt8) : bits .or .i64 (bits .andNot .i64 v (-72057594037927936)) (wrap64 ((c.toNat : Int) * 72057594037927936)) = cel ((by8 v).set 7 c) 0 := by
  obtain ⟨p0, p1, p2, p3, p4, p5, p6, p7⟩ := pow256
  obtain ⟨n, hn⟩ : ∃ n, n = (v % 18446744073709551616).toNat := ⟨_, rfl⟩
  have hc := c.toNat_lt
  obtain ⟨d0, d1, d2, d3, d4, d5, d6, d7, hd, h0, h1, h2, h3, h4, h5, h6, h7⟩ := digits8 n (by omega)
  obtain ⟨v0, v1, v2, v3, v4, v5, v6, v7⟩ := digits_v v n d0 d1 d2 d3 d4 d5 d6 d7 hn hd h0 h1 h2 h3 h4 h5 h6 h7
  rw [set_byte v n 56 (-72057594037927936) (wrap64 ((c.toNat : Int) * 72057594037927936)) c.toNat hn (by decide) (by decide +kernel) (ofInt_at7 c) hc]
  obtain ⟨ek, eo⟩ := by8_at v 7 (by decide) c
  unfold cel hor
  rw [show ((((by8 v).set 7 c).getD (0) 0).toNat : Int) = (d0 : Int) from (eo 0 (by decide) (by decide)).trans (by rw [p0, Int.ediv_one]; exact v0), show ((((by8 v).set 7 c).getD (0 + 1) 0).toNat : Int) = (d1 : Int) from (eo 1 (by decide) (by decide)).trans (by rw [p1]; exact v1), show ((((by8 v).set 7 c).getD (0 + 2) 0).toNat : Int) = (d2 : Int) from (eo 2 (by decide) (by decide)).trans (by rw [p2]; exact v2), show ((((by8 v).set 7 c).getD (0 + 3) 0).toNat : Int) = (d3 : Int) from (eo 3 (by decide) (by decide)).trans (by rw [p3]; exact v3), show ((((by8 v).set 7 c).getD (0 + 4) 0).toNat : Int) = (d4 : Int) from (eo 4 (by decide) (by decide)).trans (by rw [p4]; exact v4), show ((((by8 v).set 7 c).getD (0 + 5) 0).toNat : Int) = (d5 : Int) from (eo 5 (by decide) (by decide)).trans (by rw [p5]; exact v5), show ((((by8 v).set 7 c).getD (0 + 6) 0).toNat : Int) = (d6 : Int) from (eo 6 (by decide) (by decide)).trans (by rw [p6]; exact v6), show ((((by8 v).set 7 c).getD (0 + 7) 0).toNat : Int) = (c.toNat : Int) from ek]
  congr 1
  clear ek eo v0 v1 v2 v3 v4 v5 v6 v7 hn p0 p1 p2 p3 p4 p5 p6 p7
  subst hd
  simp only [show (2 : Nat) ^ (56 + 8) = 18446744073709551616 from by decide +kernel, show (2 : Nat) ^ 56 = 72057594037927936 from by decide +kernel]
  omega
end Go.Proofs.Yteldbkdfphkdbaa
