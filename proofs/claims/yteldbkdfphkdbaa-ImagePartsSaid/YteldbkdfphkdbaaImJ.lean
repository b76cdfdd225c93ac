import Derived.Test.YteldbkdfphkdbaaImI
namespace Go.Proofs.Yteldbkdfphkdbaa
open Go.RowKit
set_option linter.unusedVariables false
set_option linter.unusedSimpArgs false
section
variable {p b : Nat} {L : Lay} {B : List UInt8} {o s : Bool} {mode : Int} {w : World}
theorem text_in (h : Im w p b L B o s) (a n : Nat) (hok : 0 < n → rowOk L o s mode a n 1) : Calls Try.prog 30 #[.pointer (some ⟨p, 0, none⟩), .int .i64 mode, .int .i64 a, .int .i64 n] w fun e w' => e = .returned (.tuple #[.string ⟨(rowL B a n).toArray⟩, .int .i64 0]) ∧ w' = w := by
  by_cases hn : 0 < n
  · exact text_yes h a n hn (hok hn)
  · obtain rfl : n = 0 := by omega
    exact text_zero h a
theorem move_in (h : Im w p b L B o s) (x y n : Nat) (hx : 0 < n → rowOk L o s mode x n 1) (hy : 0 < n → rowOk L o s mode y n 2) : Calls Try.prog 31 #[.pointer (some ⟨p, 0, none⟩), .int .i64 mode, .int .i64 x, .int .i64 y, .int .i64 n] w fun e w' => e = .returned (.int .i64 0) ∧ Im w' p b L (splice B y (rowL B x n)) o s ∧ Only b w w' := by
  by_cases hn : 0 < n
  · exact move_yes h x y n hn (hx hn) (hy hn)
  · obtain rfl : n = 0 := by omega
    refine (move_zero h x y).mono ?_
    rintro e w' ⟨rfl, rfl⟩
    have e : splice B y (rowL B x 0) = B := by simp [splice, rowL]
    rw [e]
    exact ⟨rfl, h, Only.refl b _⟩
end
theorem rowL_splice (B R : List UInt8) (y n : Nat) (hR : R.length = n) (hf : y + n ≤ B.length) : rowL (splice B y R) y n = R := by
  subst hR
  have hl := splice_len B y R hf
  refine list_ext _ _ (rowL_len _ _ _ (by rw [hl]; exact hf)) fun i hi => ?_
  rw [rowL_len _ _ _ (by rw [hl]; exact hf)] at hi
  unfold rowL
  rw [getD_drop _ _ _ _ hi, getD_in _ _ _ _ hf (by omega) (by omega)]
  congr 1; omega
theorem part_getD (L : Lay) (B : List UInt8) (r : Int) (i : Nat) (h : i < L.to_ r - L.from_ r) : (partL L B r).getD i 0 = B.getD (L.from_ r + i) 0 := getD_drop _ _ _ _ h
/-- the head and the tail of a region beside the row -/
theorem part_head (L : Lay) (hL : L.ok) (B R : List UInt8) (r : Int) (k : Nat) (hB : B.length = L.b6) (hf : L.from_ r + k + R.length ≤ L.to_ r) : (⟨(partL L (splice B (L.from_ r + k) R) r).toArray⟩ : ByteArray).extract 0 k = (⟨(partL L B r).toArray⟩ : ByteArray).extract 0 k := by
  have hle := Lay.from_le hL r
  have key : (partL L (splice B (L.from_ r + k) R) r).take k = (partL L B r).take k := by
    have hl := splice_len B (L.from_ r + k) R (by omega)
    refine list_ext _ _ ?_ fun i hi => ?_
    · unfold partL; simp only [List.length_take, List.length_drop, hl]
    · have hik : i < k := by rw [List.length_take] at hi; omega
      have hir : i < L.to_ r - L.from_ r := by omega
      rw [List.getD_eq_getElem?_getD, List.getD_eq_getElem?_getD, List.getElem?_take_of_lt hik, List.getElem?_take_of_lt hik, ← List.getD_eq_getElem?_getD, ← List.getD_eq_getElem?_getD, part_getD _ _ _ _ hir, part_getD _ _ _ _ hir, getD_lo _ _ _ _ (by omega) (by omega)]
  ext1
  rw [ByteArray.data_extract, ByteArray.data_extract]
  apply Array.toList_inj.1
  simpa using key
theorem part_tail (L : Lay) (hL : L.ok) (B R : List UInt8) (r : Int) (k m D : Nat) (hB : B.length = L.b6) (hf : L.from_ r + k + R.length ≤ L.to_ r) (hm : m = k + R.length) (hD : D = L.to_ r - L.from_ r) : (⟨(partL L (splice B (L.from_ r + k) R) r).toArray⟩ : ByteArray).extract m D = (⟨(partL L B r).toArray⟩ : ByteArray).extract m D := by
  have hle := Lay.from_le hL r
  have key : (partL L (splice B (L.from_ r + k) R) r).drop m = (partL L B r).drop m := by
    have hl := splice_len B (L.from_ r + k) R (by omega)
    refine list_ext _ _ ?_ fun i hi => ?_
    · unfold partL; simp only [List.length_take, List.length_drop, hl]
    · have hir : m + i < L.to_ r - L.from_ r := by
        unfold partL at hi
        simp only [List.length_take, List.length_drop, hl] at hi
        omega
      rw [List.getD_eq_getElem?_getD, List.getD_eq_getElem?_getD, List.getElem?_drop, List.getElem?_drop, ← List.getD_eq_getElem?_getD, ← List.getD_eq_getElem?_getD, part_getD _ _ _ _ hir, part_getD _ _ _ _ hir, getD_hi _ _ _ _ (by omega) (by omega)]
  ext1
  rw [ByteArray.data_extract, ByteArray.data_extract]
  apply Array.toList_inj.1
  rw [Array.toList_extract, Array.toList_extract]
  simp only [List.extract]
  rw [key]
set_option maxRecDepth 100000 in
set_option maxHeartbeats 2000000 in
theorem walk_moves (a0 a1 a2 a3 a4 z f t n0 : Int) (w : World) (h0 : inI a0) (h1 : inI a1) (h2 : inI a2) (h3 : inI a3) (h4 : inI a4) (hz : inI z) (hf : inI f) (ht : inI t) (hn0 : inI n0) :
    Calls Try.prog 6 #[.agg #[.int .i64 a0, .int .i64 a1, .int .i64 a2, .int .i64 a3, .int .i64 a4], .int .i64 z, .int .i64 f, .int .i64 t, .int .i64 n0] w fun e w' => e = .returned (.bool true) ∧ Below w.heap.size w w' := by
  have hfil := fun W => filled_any a0 a1 a2 a3 a4 z false true W h0 h1 h2 h3 h4 hz
  have hL := layOf_ok a0 a1 a2 a3 a4
  generalize layOf a0 a1 a2 a3 a4 = L at *
  obtain ⟨e3, e4⟩ : L.from_ (3 : Int) = L.beg 3 ∧ L.to_ (3 : Int) = L.beg 4 := from_of L 3 (by decide) (by decide)
  have hbl := beg_le hL 3 (by decide) (by decide)
  have hm := Lay.mono hL
  obtain ⟨x, hx⟩ : ∃ x, L.beg 3 = x := ⟨_, rfl⟩
  obtain ⟨y, hy⟩ : ∃ y, L.beg 4 = y := ⟨_, rfl⟩
  have hxy : x < y := by rw [← hx, ← hy]; exact hm.2.2.1
  have hy6 : y ≤ L.b6 := by rw [← hy]; simp only [Lay.beg]; omega
  obtain ⟨D, hD⟩ : ∃ D : Nat, x + D = y := ⟨y - x, by omega⟩
  obtain ⟨n, hn, hnD⟩ : ∃ n, pickN n0 (D + 1) = n ∧ n ≤ D := ⟨_, rfl, by have := pickN_lt n0 (D + 1) (by omega); omega⟩
  obtain ⟨E, hE⟩ : ∃ E : Nat, n + E = D := ⟨D - n, by omega⟩
  obtain ⟨ka, hka, hkaE⟩ : ∃ k, pickN f (E + 1) = k ∧ k ≤ E := ⟨_, rfl, by have := pickN_lt f (E + 1) (by omega); omega⟩
  obtain ⟨kb, hkb, hkbE⟩ : ∃ k, pickN t (E + 1) = k ∧ k ≤ E := ⟨_, rfl, by have := pickN_lt t (E + 1) (by omega); omega⟩
  have p1 : ∀ W, Calls Try.prog 22 #[.int .i64 n0, .int .i64 ((D : Int) + 1)] W fun e w' => e = .returned (.int .i64 n) ∧ w' = W := fun W => by
    have := pick_any n0 ((D : Int) + 1) W hn0.1 hn0.2 (by omega) (by omega)
    rwa [show ((D : Int) + 1).toNat = D + 1 by omega, hn] at this
  have p2 : ∀ W, Calls Try.prog 22 #[.int .i64 f, .int .i64 ((E : Int) + 1)] W fun e w' => e = .returned (.int .i64 ka) ∧ w' = W := fun W => by
    have := pick_any f ((E : Int) + 1) W hf.1 hf.2 (by omega) (by omega)
    rwa [show ((E : Int) + 1).toNat = E + 1 by omega, hka] at this
  have p3 : ∀ W, Calls Try.prog 22 #[.int .i64 t, .int .i64 ((E : Int) + 1)] W fun e w' => e = .returned (.int .i64 kb) ∧ w' = W := fun W => by
    have := pick_any t ((E : Int) + 1) W ht.1 ht.2 (by omega) (by omega)
    rwa [show ((E : Int) + 1).toNat = E + 1 by omega, hkb] at this
  obtain ⟨a, ha⟩ : ∃ a, x + ka = a := ⟨_, rfl⟩
  obtain ⟨b, hb⟩ : ∃ b, x + kb = b := ⟨_, rfl⟩
  have ra := fun (hn : 0 < n) => row_in (o := false) (s := true) (mode := 1) (n := n) (right := 1) hL 3 (a : Int) (by decide) (by decide) (by rw [hx]; omega) (by rw [hy]; omega) (by rw [hy]; omega) (.inl rfl)
  have rb := fun right (hn : 0 < n) => row_in (o := false) (s := true) (mode := 1) (n := n) (right := right) hL 3 (b : Int) (by decide) (by decide) (by rw [hx]; omega) (by rw [hy]; omega) (by rw [hy]; omega) (.inl rfl)
  have i1 : (y : Int) - x = D := by omega
  have i2 : (D : Int) - n = E := by omega
  have i3 : (x : Int) + ka = a := by omega
  have i4 : (x : Int) + kb = b := by omega
  have i5 : (b : Int) - x = kb := by omega
  obtain ⟨m, hm2⟩ : ∃ m, kb + n = m := ⟨_, rfl⟩
  have i6 : (kb : Int) + n = m := by omega
  have i7 : m ≤ D := by omega
  have i8 : (m : Int) ≤ D := by omega
  have i9 : kb ≤ D := by omega
  have i10 : (kb : Int) ≤ D := by omega
  have i11 : (0 : Int) ≤ kb := by omega
  have i12 : (0 : Int) ≤ m := by omega
  have hDD : D ≤ 143360 := by omega
  have hy7 : y ≤ 143360 := by omega
  have ja : a ≤ 143360 := by omega
  have jb : b ≤ 143360 := by omega
  have ja0 : (0 : Int) ≤ a := by omega
  have jb0 : (0 : Int) ≤ b := by omega
  rw [hx] at e3
  rw [hy] at e4
  have plain : ∀ B : List UInt8, B.length = L.b6 → rowL (splice B b (rowL B a n)) b n = rowL B a n ∧ (⟨(partL L (splice B b (rowL B a n)) 3).toArray⟩ : ByteArray).extract 0 kb = (⟨(partL L B 3).toArray⟩ : ByteArray).extract 0 kb ∧ (⟨(partL L (splice B b (rowL B a n)) 3).toArray⟩ : ByteArray).extract m D = (⟨(partL L B 3).toArray⟩ : ByteArray).extract m D := fun B hB => by
    have hR := rowL_len B a n (by omega)
    generalize rowL B a n = R at *
    refine ⟨rowL_splice B R b n hR (by omega), ?_, ?_⟩
    · have := part_head L hL B R 3 kb hB (by rw [e3, e4, hR]; omega)
      rwa [e3, hb] at this
    · have := part_tail L hL B R 3 kb m D hB (by rw [e3, e4, hR]; omega) (by omega) (by rw [e3, e4]; omega)
      rwa [e3, hb] at this
  replace plain := Lib.hid plain
  have hsp := fun W p q B (h : Im W p q L B false true) => span_any p q L B false true 3 W h
  rw [e3, e4] at hsp
  have hpl := fun B W p q (h : Im W p q L B false true) => part_len h 3
  rw [e3, e4, show y - x = D by omega] at hpl
  replace hsp := Lib.hid hsp
  replace hpl := Lib.hid hpl
  replace p1 := Lib.hid p1
  replace p2 := Lib.hid p2
  replace p3 := Lib.hid p3
  replace ra := Lib.hid ra
  replace rb := Lib.hid rb
  replace hfil := Lib.hid hfil
  replace hL := Lib.hid hL
  clear hx hy hbl hm hn hka hkb hD hE e3 e4 ha hb hm2 h0 h1 h2 h3 h4 hz hf ht hn0
  go_enter Try.func6, Try.ntmps6
  go_wp2_with (fail)
  have hK := Bk.fresh w 39 #[.int .i64 a0, .int .i64 a1, .int .i64 a2, .int .i64 a3, .int .i64 a4]
  have hB := (Below.refl w.heap.size w).alloc (Nat.le_refl _) (.cells #[.int .i64 a0, .int .i64 a1, .int .i64 a2, .int .i64 a3, .int .i64 a4] 39)
  obtain ⟨V, hV⟩ : ∃ V, w.alloc (.cells #[.int .i64 a0, .int .i64 a1, .int .i64 a2, .int .i64 a3, .int .i64 a4] 39) = V := ⟨_, rfl⟩
  rw [hV] at hK hB ⊢
  clear hV
  refine (shown_any V).mono ?_
  rintro e w1 ⟨rfl, hb1⟩
  replace hK := hK.kept hb1 hK.lt
  replace hB := hB.trans (hb1.mono hB.size)
  clear hb1
  have c0 := hK.cell 0
  have c1 := hK.cell 1
  have c2 := hK.cell 2
  have c3 := hK.cell 3
  have c4 := hK.cell 4
  simp at c0 c1 c2 c3 c4
  clear hK
  go_wp2_with (fail)
  refine (hfil.out w1).mono ?_
  rintro e w2 ⟨p, q, B0, rfl, hI, hp, hq, hb2⟩
  replace hp := Nat.le_trans hB.size hp
  replace hq := Nat.le_trans hB.size hq
  replace hB := hB.trans (hb2.mono hB.size)
  clear hb2 c0 c1 c2 c3 c4
  replace hI := Lib.hid hI
  replace hp := Lib.hid hp
  replace hq := Lib.hid hq
  go_wp2_with (fail)
  refine (hsp.out w2 p q B0 hI.out).mono ?_
  rintro e w3 ⟨rfl, nq, rfl⟩
  replace hI := Lib.hid (hI.out.draws nq)
  replace hB : Below w.heap.size w (w2.drewN nq) := hB.trans ⟨rfl, rfl, rfl, Nat.le_refl _, fun _ _ => rfl⟩
  obtain ⟨w4, hw4⟩ : ∃ w4, w2.drewN nq = w4 := ⟨_, rfl⟩
  rw [hw4] at hI hB ⊢
  clear hw4
  go_wp2_with (fail)
  refine (p1.out w4).mono ?_
  rintro e w5 ⟨rfl, rfl⟩
  go_wp2_with (fail)
  refine (p2.out w5).mono ?_
  rintro e w6 ⟨rfl, rfl⟩
  go_wp2_with (fail)
  refine (p3.out w6).mono ?_
  rintro e w7 ⟨rfl, rfl⟩
  go_wp2_with (fail)
  refine (Part_any hI.out 3).mono ?_
  rintro e w8 ⟨rfl, n8, rfl⟩
  obtain ⟨g1, g2, g3⟩ := plain.out B0 hI.out.len
  replace hI := Lib.hid (hI.out.draws n8)
  replace hB : Below w.heap.size w (w7.drewN n8) := hB.trans ⟨rfl, rfl, rfl, Nat.le_refl _, fun _ _ => rfl⟩
  obtain ⟨w9, hw9⟩ : ∃ w9, w7.drewN n8 = w9 := ⟨_, rfl⟩
  rw [hw9] at hI hB ⊢
  clear hw9
  have hmv := Lib.hid (move_in hI.out a b n ra.out (rb.out 2))
  have htx := Lib.hid (text_in hI.out a n ra.out)
  have s1 := hpl.out B0 w9 p q hI.out
  obtain ⟨B1, hB1⟩ : ∃ B1, splice B0 b (rowL B0 a n) = B1 := ⟨_, rfl⟩
  rw [hB1] at g1 g2 g3 hmv
  obtain ⟨R, hR⟩ : ∃ R, rowL B0 a n = R := ⟨_, rfl⟩
  rw [hR] at g1 htx
  obtain ⟨X, hX⟩ : ∃ X : ByteArray, (⟨(partL L B0 3).toArray⟩ : ByteArray) = X := ⟨_, rfl⟩
  have z1 : X.size = D := by rw [← hX]; exact s1
  rw [hX] at g2 g3 ⊢
  obtain ⟨Y, hY⟩ : ∃ Y : ByteArray, (⟨(partL L B1 3).toArray⟩ : ByteArray) = Y := ⟨_, rfl⟩
  rw [hY] at g2 g3
  clear hX hB1 hR s1
  replace g1 := Lib.hid g1
  replace g2 := Lib.hid g2
  replace g3 := Lib.hid g3
  replace hY := Lib.hid hY
  replace z1 := Lib.hid z1
  go_wp2_with (fail)
  refine htx.out.mono ?_
  rintro e w10 ⟨rfl, rfl⟩
  clear htx
  go_wp2_with (fail)
  refine hmv.out.mono ?_
  rintro e w11 ⟨rfl, hI2, hO⟩
  replace hB := hO.bel hB hq.out
  clear hmv hO hI
  have htx := text_in hI2 b n (rb.out 1)
  rw [g1.out] at htx
  have hpt := Part_any hI2 3
  rw [hY.out] at hpt
  have z2 : Y.size = D := by rw [← hY.out]; exact hpl.out B1 w11 p q hI2
  replace htx := Lib.hid htx
  replace hpt := Lib.hid hpt
  replace z2 := Lib.hid z2
  clear hI2
  go_wp2_with (fail)
  refine htx.out.mono ?_
  rintro e w12 ⟨rfl, rfl⟩
  go_wp2_with (fail)
  refine hpt.out.mono ?_
  rintro e w13 ⟨rfl, n13, rfl⟩
  clear hpt htx
  replace g2 := g2.out
  replace g3 := g3.out
  replace z1 := z1.out
  replace z2 := z2.out
  go_wp2_with (fail)
  go_quiet (fail)
  go_wp2_with (fail)
  go_returns
  exact ⟨rfl, hB.trans ⟨rfl, rfl, rfl, Nat.le_refl _, fun _ _ => rfl⟩⟩
end Go.Proofs.Yteldbkdfphkdbaa
