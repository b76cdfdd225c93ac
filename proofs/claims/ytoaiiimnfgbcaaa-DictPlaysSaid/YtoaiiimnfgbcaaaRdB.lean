import Derived.Test.YtoaiiimnfgbcaaaRdA
namespace Go.Proofs.Ytoaiiimnfgbcaaa
open Go.RowKit
attribute [local go_sem] Oper.semAt_some
set_option linter.unusedVariables false
set_option linter.unusedSimpArgs false
/-! chapter 8: the document's up -/
theorem rup_any (n : Nat) (hn : n ≤ 200000) (w : World) : Calls Try.prog 67 #[.int .i64 (n : Int)] w fun e w' => e = .returned (.int .i64 (upN n)) ∧ w' = w := by
  have hu := upN_le n
  obtain ⟨m, hm⟩ : ∃ m, upN n - n = m := ⟨_, rfl⟩
  have hm2 : upN n = n + m := by omega
  have h8 : (n + m) % 8 = 0 := by omega
  have hmin : ∀ k, k < m → (n + k) % 8 ≠ 0 := fun k hk => by unfold upN at hm2; omega
  have hm7 : m ≤ 7 := by omega
  rw [hm2]
  clear hu hm hm2
  replace hmin := Lib.hid hmin
  go_enter Try.func67, Try.ntmps67
  go_wp2_with (fail)
  go_loopw [0] (fun x wr => ∃ k : Nat, x = .int .i64 ((n + k : Nat) : Int) ∧ k ≤ m ∧ wr = w) (fun x _ => m + n - (intOf x).toNat)
  case atStart => exact ⟨0, rfl, Nat.zero_le _, rfl⟩
  case round =>
    obtain ⟨k, rfl, hk, rfl⟩ := hrel
    by_cases hkm : k < m
    · have e1 : (((n + k : Nat) : Int) % 8 != 0) = true := by have := hmin.out k hkm; simp; omega
      obtain ⟨z, hz⟩ : ∃ z, n + k = z := ⟨_, rfl⟩
      rw [hz] at e1 ⊢
      have i5 : IntKind.i64.wrap ((z : Int) + 1) = ((z + 1 : Nat) : Int) := by rw [IntKind.wrap_i64]; omega
      replace hz := Lib.hid hz
      go_wp2_with (fail)
      exact ⟨⟨k + 1, by rw [show n + (k + 1) = z + 1 by have := hz.out; omega]; first | rfl | simp, by omega, by first | rfl | trivial⟩, by have := hz.out; simp [intOf]; omega⟩
    · obtain rfl : k = m := by omega
      have e1 : (((n + k : Nat) : Int) % 8 != 0) = false := by simp; omega
      obtain ⟨z, hz⟩ : ∃ z, n + k = z := ⟨_, rfl⟩
      rw [hz] at e1 ⊢
      clear h8
      replace hz := Lib.hid hz
      go_wp2_with (fail)
      go_returns
      rw [hz.out]
      exact ⟨rfl, rfl⟩
theorem ext_getD {l m : List UInt8} (hl : l.length = m.length) (h : ∀ i, i < l.length → l.getD i 0 = m.getD i 0) : l = m := by
  apply List.ext_getElem hl
  intro i h1 h2
  have := h i h1
  rw [List.getD_eq_getElem?_getD, List.getD_eq_getElem?_getD, List.getElem?_eq_getElem h1, List.getElem?_eq_getElem h2] at this
  exact this
theorem splice_none (B : List UInt8) (x : Nat) : splice B x [] = B := by simp [splice]
theorem splice_step (B cs : List UInt8) (x j : Nat) (hj : j < cs.length) (hf : x + cs.length ≤ B.length) : (splice B x (cs.take j)).set (x + j) cs[j] = splice B x (cs.take (j + 1)) := by
  have l1 : (cs.take j).length = j := by simp; omega
  have l2 : (cs.take (j + 1)).length = j + 1 := by simp; omega
  have e1 := splice_len B x (cs.take j) (by omega)
  have e2 := splice_len B x (cs.take (j + 1)) (by omega)
  apply ext_getD (by rw [List.length_set, e1, e2])
  intro i hi
  rw [List.length_set, e1] at hi
  rw [List.getD_eq_getElem?_getD, List.getElem?_set]
  have tk : ∀ k n, k < n → k < cs.length → (cs.take n).getD k 0 = cs.getD k 0 := fun k n hk hc => by
    rw [List.getD_eq_getElem?_getD, List.getD_eq_getElem?_getD, List.getElem?_take_of_lt hk]
  by_cases h0 : x + j = i
  · subst h0
    rw [if_pos rfl, if_pos (by rw [e1]; omega), getD_in B _ x _ (by omega) (by omega) (by omega), Nat.add_sub_cancel_left, tk j (j + 1) (by omega) hj, List.getD_eq_getElem?_getD, List.getElem?_eq_getElem hj]
  · rw [if_neg h0, ← List.getD_eq_getElem?_getD]
    by_cases h1 : x ≤ i ∧ i < x + j
    · rw [getD_in B _ x i (by omega) h1.1 (by omega), getD_in B _ x i (by omega) h1.1 (by omega), tk _ _ (by omega) (by omega), tk _ _ (by omega) (by omega)]
    · rw [getD_out B _ x i (by omega) (by omega), getD_out B _ x i (by omega) (by omega)]
section
variable {W W' w : World} {q m g n : Nat} {B : List UInt8} {cl : Bool} {h l : Nat}

theorem ral_zero (D : Rd w q m g n B cl h l) (h8 : h % 8 = 0) : Calls Try.prog 45 #[.pointer (some ⟨q, 0, none⟩)] w fun e w' => e = .returned (.int .i64 0) ∧ w' = w := by
  have c3 := D.c3
  have e1 : ((h : Int) % 8 != 0) = false := by simp; omega
  clear D h8
  go_enter Try.func45, Try.ntmps45
  go_wp2_with (fail)
  go_loopw [2] (fun x wr => x = .int .i64 0 ∧ wr = w) (fun x wr => 0)
  case atStart => exact ⟨rfl, rfl⟩
  case round =>
    obtain ⟨rfl, rfl⟩ := hrel
    go_wp2_with (fail)
    go_returns
    exact ⟨rfl, rfl⟩
theorem ral_fence (D : Rd w q m g n B true h l) (h8 : ¬ h % 8 = 0) : Calls Try.prog 45 #[.pointer (some ⟨q, 0, none⟩)] w fun e w' => e = .returned (.int .i64 5) ∧ w' = w := by
  have c3 := D.c3
  have c2 := D.c2
  have e1 : ((h : Int) % 8 != 0) = true := by simp; omega
  clear D h8
  go_enter Try.func45, Try.ntmps45
  go_wp2_with (fail)
  go_loopw [2] (fun x wr => x = .int .i64 0 ∧ wr = w) (fun x wr => 0)
  case atStart => exact ⟨rfl, rfl⟩
  case round =>
    obtain ⟨rfl, rfl⟩ := hrel
    go_wp2_with (fail)
    go_returns
    exact ⟨rfl, rfl⟩
theorem ral_yes (D : Rd w q m g n B false h l) : Calls Try.prog 45 #[.pointer (some ⟨q, 0, none⟩)] w fun e w' => e = .returned (.int .i64 0) ∧ Rd w' q m g n (fillN B h (upN h - h)) false (upN h) l ∧ Onb m q w w' := by
  have hu := upN_le h
  have hg8 := D.g8
  have hn8 := D.n8
  have hhi := D.hi
  obtain ⟨t, ht⟩ : ∃ t, upN h - h = t := ⟨_, rfl⟩
  have hm2 : upN h = h + t := by omega
  rw [ht, hm2]
  have hy : h + t ≤ g + n := by unfold upN at hm2; omega
  have h8 : (h + t) % 8 = 0 := by omega
  have hmin : ∀ k, k < t → (h + k) % 8 ≠ 0 := fun k hk => by unfold upN at hm2; omega
  clear hu ht hm2 hg8 hn8 hhi
  replace D := Lib.hid D
  replace hmin := Lib.hid hmin
  replace hy := Lib.hid hy
  replace h8 := Lib.hid h8
  go_enter Try.func45, Try.ntmps45
  go_wp2_with (fail)
  go_loopw [2] (fun x wr => ∃ k, x = .int .i64 0 ∧ k ≤ t ∧ Rd wr q m g n (fillN B h k) false (h + k) l ∧ Onb m q w wr) (fun x wr => t + h - (intOf ((wr.cell? ⟨q, 3, none⟩).getD undef)).toNat)
  case atStart => exact ⟨0, rfl, by omega, D.out, Onb.refl _ _ _⟩
  case round =>
    obtain ⟨k, rfl, hk, D1, hO⟩ := hrel
    have c3 := D1.c3
    by_cases hkm : k < t
    · have e1 : (((h + k : Nat) : Int) % 8 != 0) = true := by have := hmin.out k hkm; simp; omega
      obtain ⟨z, hz⟩ : ∃ z, h + k = z := ⟨_, rfl⟩
      obtain ⟨B1, hB1⟩ : ∃ B1, fillN B h k = B1 := ⟨_, rfl⟩
      have hsn := fillN_snoc k B h
      rw [hB1, hz] at hsn
      rw [hz] at c3 e1 D1
      rw [hB1] at D1
      have c4 := c3
      have c2 := D1.c2
      have hh : z < g + n := by have := hy.out; omega
      replace hO := Lib.hid hO
      replace hz := Lib.hid hz
      replace hsn := Lib.hid hsn
      clear hB1 D hy
      have D := D1
      clear D1
      have c0 := D.c0
      have c1 := D.c1
      have c3 := D.c3
      have hlo := D.lo
      have hhi := D.hi
      have hfar := D.far
      obtain ⟨i, hi⟩ : ∃ i, z - g = i := ⟨_, rfl⟩
      have i1 : IntKind.i64.wrap ((z : Int) - g) = (i : Int) := by rw [IntKind.wrap_i64]; omega
      have i2 : (i : Int) < n := by omega
      have i3 : (0 : Int) ≤ i := by omega
      have i4 : ¬ (i : Int) < 0 := by omega
      have i5 : IntKind.i64.wrap ((z : Int) + 1) = ((z + 1 : Nat) : Int) := by rw [IntKind.wrap_i64]; omega
      have y0 := D.byte i (by omega)
      have yf := D.by_.free i
      replace D := Lib.hid D
      clear hfar hlo hhi hh
      go_wp2_with (fail)
      have hk : ∀ j, (wr.setCell ⟨m, i, none⟩ (.int .u8 0)).cell? ⟨q, j, none⟩ = wr.cell? ⟨q, j, none⟩ := fun j => World.cell?_setCell_far _ _ _ _ D.out.ne.symm
      have D2 := (D.out.set z 0 (by have := D.out.lo; omega)).draw
      rw [hi] at D2
      replace D2 : Rd (wr.setCell ⟨m, i, none⟩ (.int .u8 0)).drew q m g n _ false z l := D2
      have hO2 : Onb m q wr (wr.setCell ⟨m, i, none⟩ (.int .u8 0)).drew := (Onb.ofb ((Only.refl m wr).put i _)).draw
      replace D2 := Lib.hid D2
      replace hO2 := Lib.hid hO2
      go_region_held3 (fun w' => w'.cell? ⟨q, 0, none⟩ = some (.slice (some ⟨m, 0, none⟩) n n) ∧ w'.cell? ⟨q, 1, none⟩ = some (.int .i64 g) ∧ w'.cell? ⟨q, 3, none⟩ = some (.int .i64 z)) (first | (simp [go_sem, *]; done) | go_keep) (fail)
      obtain ⟨W2, hW2⟩ : ∃ W2, (wr.setCell ⟨m, i, none⟩ (.int .u8 0)).drew = W2 := ⟨_, rfl⟩
      rw [hW2] at D2 hO2 ⊢
      clear hW2 hk c0 c1 c3 yf y0
      have c3 := D2.out.c3
      have f3 := D2.out.bk.free 3
      go_wp2_with (fail)
      have D3 := D2.out.put3 (z + 1) (by have := D2.out.lo; omega) (by have := D2.out.hi; omega)
      have e9 : ((z + 1 : Nat) : Int) = (z : Int) + 1 := by omega
      rw [e9] at D3
      have c5 := D3.c3
      have hz1 : z + 1 = h + (k + 1) := by have := hz.out; omega
      refine ⟨⟨k + 1, rfl, by omega, ?_, hO.out.trans (hO2.out.putd 3 _)⟩, ?_⟩
      · rw [← hsn.out, hz1] at D3
        exact D3
      · have := hz.out
        rw [c5, c4]
        simp [intOf]
        omega
    · obtain rfl : k = t := by omega
      have e1 : (((h + k : Nat) : Int) % 8 != 0) = false := by have := h8.out; simp; omega
      obtain ⟨z, hz⟩ : ∃ z, h + k = z := ⟨_, rfl⟩
      rw [hz] at c3 e1
      replace D1 := Lib.hid D1
      replace hO := Lib.hid hO
      clear h8 hy hz
      go_wp2_with (fail)
      go_returns
      exact ⟨rfl, D1.out, hO.out⟩
/-- the cell as an unsigned number, shifted k bytes -/
def uK (v : Int) (k : Nat) : Int := v % 18446744073709551616 / 256 ^ k
theorem uK_pos (v : Int) (k : Nat) : 0 ≤ uK v k ∧ uK v k < 18446744073709551616 := by
  unfold uK
  have h1 : 0 ≤ v % 18446744073709551616 := by omega
  have h2 : (0 : Int) < 256 ^ k := Int.pow_pos (by decide)
  refine ⟨Int.ediv_nonneg h1 (Int.le_of_lt h2), ?_⟩
  exact Int.lt_of_le_of_lt (Int.ediv_le_self _ h1) (by omega)
theorem uK_next (v : Int) (k : Nat) : uK v (k + 1) = uK v k / 256 := by
  unfold uK
  rw [Int.pow_succ, Int.ediv_ediv_of_nonneg (Int.le_of_lt (Int.pow_pos (by decide)))]
theorem uK_byte (v : Int) (k : Nat) (hk : k < 8) : ∃ c, (by8 v)[k]'(by rw [by8_length]; exact hk) = c ∧ uK v k % 256 = (c.toNat : Int) := by
  refine ⟨_, rfl, ?_⟩
  have e : (by8 v)[k]'(by rw [by8_length]; exact hk) = UInt8.ofNat (v / 256 ^ k % 256).toNat := by simp [by8]
  rw [e]
  have k2 : ∀ x : Int, ((UInt8.ofNat (x % 256).toNat).toNat : Int) = x % 256 := fun x => by simp; omega
  rw [k2]
  have p : (256 : Int) ^ 2 = 65536 ∧ (256 : Int) ^ 3 = 16777216 ∧ (256 : Int) ^ 4 = 4294967296 ∧ (256 : Int) ^ 5 = 1099511627776 ∧ (256 : Int) ^ 6 = 281474976710656 ∧ (256 : Int) ^ 7 = 72057594037927936 := by decide +kernel
  obtain ⟨p2, p3, p4, p5, p6, p7⟩ := p
  unfold uK
  rcases (show k = 0 ∨ k = 1 ∨ k = 2 ∨ k = 3 ∨ k = 4 ∨ k = 5 ∨ k = 6 ∨ k = 7 by omega) with rfl | rfl | rfl | rfl | rfl | rfl | rfl | rfl
  all_goals simp only [Int.pow_zero, Int.pow_one, Int.ediv_one, p2, p3, p4, p5, p6, p7]
  all_goals omega
theorem rlay_any (D : Rd w q m g n B false h l) (v : Int) (hv : -9223372036854775808 ≤ v ∧ v ≤ 9223372036854775807) (hh : h + 8 ≤ g + n) : Calls Try.prog 65 #[.pointer (some ⟨q, 0, none⟩), .int .i64 v] w fun e w' => e = .returned (.tuple #[]) ∧ Rd w' q m g n (splice B h (by8 v)) false (h + 8) l ∧ Onb m q w w' := by
  have hlen := D.len
  have u0 : uK v 0 = v % 18446744073709551616 := by unfold uK; rw [Int.pow_zero, Int.ediv_one]
  have hst : ∀ k, k < 8 → ∃ c : UInt8, (splice B h ((by8 v).take k)).set (h + k) c = splice B h ((by8 v).take (k + 1)) ∧ uK v k % 256 = (c.toNat : Int) := fun k hk => by
    obtain ⟨c, h1, h2⟩ := uK_byte v k hk
    exact ⟨c, by rw [← h1]; exact splice_step B (by8 v) h k (by rw [by8_length]; exact hk) (by rw [by8_length]; omega), h2⟩
  have hend : (by8 v).take 8 = by8 v := List.take_of_length_le (by rw [by8_length]; exact Nat.le_refl _)
  obtain ⟨bs, hbs⟩ : ∃ bs, by8 v = bs := ⟨_, rfl⟩
  have hbl : bs.length = 8 := by rw [← hbs]; exact by8_length v
  rw [hbs] at hend ⊢
  simp only [hbs] at hst
  replace D := Lib.hid D
  replace hst := Lib.hid hst
  replace hend := Lib.hid hend
  replace hh := Lib.hid hh
  clear hbs hlen
  go_enter Try.func65, Try.ntmps65
  go_wp2_with (fail)
  go_loopw [4, 5] (fun u i wr => ∃ k : Nat, u = .int .u64 (uK v k) ∧ i = .int .i64 k ∧ k ≤ 8 ∧ Rd wr q m g n (splice B h (bs.take k)) false (h + k) l ∧ Onb m q w wr) (fun _ i _ => 8 - (intOf i).toNat)
  case atStart => exact ⟨0, by rw [u0]; first | rfl, rfl, by omega, by rw [List.take_zero, splice_none]; exact D.out, Onb.refl _ _ _⟩
  case round =>
    obtain ⟨k, rfl, rfl, hk, D1, hO⟩ := hrel
    by_cases hkm : k < 8
    · have e1 : (k : Int) < 8 := by omega
      obtain ⟨z, hz⟩ : ∃ z, h + k = z := ⟨_, rfl⟩
      obtain ⟨B1, hB1⟩ : ∃ B1, splice B h (bs.take k) = B1 := ⟨_, rfl⟩
      obtain ⟨c, hsn, hc2⟩ := hst.out k hkm
      rw [hB1, hz] at hsn
      rw [hz, hB1] at D1
      have hgn : z < g + n := by have := hh.out; omega
      have hpos := uK_pos v k
      have hnx := uK_next v k
      obtain ⟨u, hu⟩ : ∃ u, uK v k = u := ⟨_, rfl⟩
      rw [hu] at hc2 hpos hnx ⊢
      have cv : IntKind.u8.wrap u = (c.toNat : Int) := by rw [← hc2]; first | rfl | simp [IntKind.wrap, IntKind.signed, IntKind.bits, IntKind.wrapU]
      have i6 : IntKind.i64.wrap ((k : Int) + 1) = ((k + 1 : Nat) : Int) := by rw [IntKind.wrap_i64]; omega
      replace hO := Lib.hid hO
      replace hz := Lib.hid hz
      replace hsn := Lib.hid hsn
      replace hnx := Lib.hid hnx
      clear hB1 hu
      have D := D1
      clear D1
      have c0 := D.c0
      have c1 := D.c1
      have c3 := D.c3
      have hlo := D.lo
      have hhi := D.hi
      have hfar := D.far
      obtain ⟨i, hi⟩ : ∃ i, z - g = i := ⟨_, rfl⟩
      have i1 : IntKind.i64.wrap ((z : Int) - g) = (i : Int) := by rw [IntKind.wrap_i64]; omega
      have i2 : (i : Int) < n := by omega
      have i3 : (0 : Int) ≤ i := by omega
      have i4 : ¬ (i : Int) < 0 := by omega
      have i5 : IntKind.i64.wrap ((z : Int) + 1) = ((z + 1 : Nat) : Int) := by rw [IntKind.wrap_i64]; omega
      have y0 := D.byte i (by omega)
      have yf := D.by_.free i
      replace D := Lib.hid D
      clear hfar hlo hhi hgn
      go_wp2_with (fail)
      have hk : ∀ j, (wr.setCell ⟨m, i, none⟩ (.int .u8 (c.toNat : Int))).cell? ⟨q, j, none⟩ = wr.cell? ⟨q, j, none⟩ := fun j => World.cell?_setCell_far _ _ _ _ D.out.ne.symm
      have D2 := (D.out.set z c (by have := D.out.lo; omega)).draw
      rw [hi] at D2
      replace D2 : Rd (wr.setCell ⟨m, i, none⟩ (.int .u8 (c.toNat : Int))).drew q m g n _ false z l := D2
      have hO2 : Onb m q wr (wr.setCell ⟨m, i, none⟩ (.int .u8 (c.toNat : Int))).drew := (Onb.ofb ((Only.refl m wr).put i _)).draw
      replace D2 := Lib.hid D2
      replace hO2 := Lib.hid hO2
      go_region_held3 (fun w' => w'.cell? ⟨q, 0, none⟩ = some (.slice (some ⟨m, 0, none⟩) n n) ∧ w'.cell? ⟨q, 1, none⟩ = some (.int .i64 g) ∧ w'.cell? ⟨q, 3, none⟩ = some (.int .i64 z)) (first | (simp [go_sem, *]; done) | go_keep) (fail)
      obtain ⟨W2, hW2⟩ : ∃ W2, (wr.setCell ⟨m, i, none⟩ (.int .u8 (c.toNat : Int))).drew = W2 := ⟨_, rfl⟩
      rw [hW2] at D2 hO2 ⊢
      clear hW2 hk c0 c1 c3 yf y0
      have c3 := D2.out.c3
      have f3 := D2.out.bk.free 3
      go_wp2_with (fail)
      have D3 := D2.out.put3 (z + 1) (by have := D2.out.lo; omega) (by have := D2.out.hi; have := hz.out; have := hh.out; omega)
      have e9 : ((z + 1 : Nat) : Int) = (z : Int) + 1 := by omega
      rw [e9] at D3
      have hz1 : z + 1 = h + (k + 1) := by have := hz.out; omega
      refine ⟨⟨k + 1, by rw [hnx.out], by first | rfl | simp, by omega, ?_, hO.out.trans (hO2.out.putd 3 _)⟩, by simp [intOf]; omega⟩
      rw [hsn.out, hz1] at D3
      exact D3
    · obtain rfl : k = 8 := by omega
      have e1 : ¬ ((8 : Nat) : Int) < 8 := by omega
      replace D1 := Lib.hid D1
      replace hO := Lib.hid hO
      go_wp2_with (fail)
      go_returns
      exact ⟨rfl, by have := D1.out; rw [hend.out] at this; exact this, hO.out⟩
end
end Go.Proofs.Ytoaiiimnfgbcaaa
