import Derived.Test.YteldbkdfphkdbaaImI
import Derived.Test.YteldbkdfphkdbaaImL0
namespace Go.Proofs.Yteldbkdfphkdbaa
open Go.RowKit
set_option linter.unusedVariables false
set_option linter.unusedSimpArgs false
set_option maxRecDepth 100000 in
set_option maxHeartbeats 8000000 in
theorem walk_cells (a0 a1 a2 a3 a4 at_ v k0 : Int) (by_ : UInt8) (w : World) (h0 : inI a0) (h1 : inI a1) (h2 : inI a2) (h3 : inI a3) (h4 : inI a4) (hat : inI at_) (hv : inI v) (hk0 : inI k0) :
    Calls Try.prog 4 #[.agg #[.int .i64 a0, .int .i64 a1, .int .i64 a2, .int .i64 a3, .int .i64 a4], .int .i64 at_, .int .i64 v, .int .i64 k0, .int .u8 (by_.toNat : Int)] w fun e w' => e = .returned (.bool true) ∧ Below w.heap.size w w' := by
  have hfil := fun W => filled_any a0 a1 a2 a3 a4 v false true W h0 h1 h2 h3 h4 hv
  have hL := layOf_ok a0 a1 a2 a3 a4
  generalize layOf a0 a1 a2 a3 a4 = L at *
  obtain ⟨e3, e4⟩ : L.from_ (3 : Int) = L.beg 3 ∧ L.to_ (3 : Int) = L.beg 4 := from_of L 3 (by decide) (by decide)
  have hbl := beg_le hL 3 (by decide) (by decide)
  have hm := Lay.mono hL
  have hev := Lay.even hL
  have hu : 256 ≤ L.u := hL.2.2.1.1
  obtain ⟨x, hx⟩ : ∃ x, L.beg 3 = x := ⟨_, rfl⟩
  obtain ⟨y, hy⟩ : ∃ y, L.beg 4 = y := ⟨_, rfl⟩
  have hxe : x % 8 = 0 := by rw [← hx]; simp only [Lay.beg]; omega
  have hye : y % 8 = 0 := by rw [← hy]; simp only [Lay.beg]; omega
  have hxy : x + 256 ≤ y := by rw [← hx, ← hy]; simp only [Lay.beg]; unfold Lay.b4; omega
  have hy6 : y ≤ L.b6 := by rw [← hy]; simp only [Lay.beg]; omega
  obtain ⟨D, hD⟩ : ∃ D : Nat, x + D = y := ⟨y - x, by omega⟩
  obtain ⟨M, hM⟩ : ∃ M : Nat, 8 * (M + 1) = D := ⟨D / 8 - 1, by omega⟩
  obtain ⟨ka, hka, hkaM⟩ : ∃ k, pickN at_ M = k ∧ k < M := ⟨_, rfl, pickN_lt at_ M (by omega)⟩
  obtain ⟨k, hk, hk8⟩ : ∃ k, pickN k0 8 = k ∧ k < 8 := ⟨_, rfl, pickN_lt k0 8 (by decide)⟩
  have p1 : ∀ W, Calls Try.prog 22 #[.int .i64 at_, .int .i64 (M : Int)] W fun e w' => e = .returned (.int .i64 ka) ∧ w' = W := fun W => by
    have := pick_any at_ (M : Int) W hat.1 hat.2 (by omega) (by omega)
    rwa [show (M : Int).toNat = M by omega, hka] at this
  have p2 : ∀ W, Calls Try.prog 22 #[.int .i64 k0, .int .i64 8] W fun e w' => e = .returned (.int .i64 k) ∧ w' = W := fun W => by
    have := pick_any k0 8 W hk0.1 hk0.2 (by decide) (by decide)
    rwa [show (8 : Int).toNat = 8 from rfl, hk] at this
  obtain ⟨a, ha⟩ : ∃ a, x + 8 * ka = a := ⟨_, rfl⟩
  obtain ⟨a8, ha8⟩ : ∃ a8, a + 8 = a8 := ⟨_, rfl⟩
  obtain ⟨ak, hak⟩ : ∃ ak, a + k = ak := ⟨_, rfl⟩
  have ra := fun mode right (hm : mode = 0 ∨ mode = 1 ∨ mode = 2) => row_in (o := false) (s := true) (mode := mode) (n := 8) (right := right) hL 3 (a : Int) (by decide) (by decide) (by rw [hx]; omega) (by rw [hy]; omega) (by rw [hy]; omega) (.inl (may_stu false true mode hm))
  have ra8 := fun mode right (hm : mode = 0 ∨ mode = 1 ∨ mode = 2) => row_in (o := false) (s := true) (mode := mode) (n := 8) (right := right) hL 3 (a8 : Int) (by decide) (by decide) (by rw [hx]; omega) (by rw [hy]; omega) (by rw [hy]; omega) (.inl (may_stu false true mode hm))
  have rak := fun mode right (hm : mode = 0 ∨ mode = 1 ∨ mode = 2) => row_in (o := false) (s := true) (mode := mode) (n := 1) (right := right) hL 3 (ak : Int) (by decide) (by decide) (by rw [hx]; omega) (by rw [hy]; omega) (by rw [hy]; omega) (.inl (may_stu false true mode hm))
  have ea : a % 8 = 0 := by omega
  have ea8 : a8 % 8 = 0 := by omega
  have i1 : (y : Int) - x = D := by omega
  have i2 : (D : Int) / 8 = (M : Int) + 1 := by omega
  have i3 : (8 : Int) * ka = ((8 * ka : Nat) : Int) := by omega
  obtain ⟨k8, hk8'⟩ : ∃ k8, 8 * ka = k8 := ⟨_, rfl⟩
  rw [hk8'] at i3 ha
  have i4 : (x : Int) + k8 = a := by omega
  have i5 : (a : Int) + 8 = a8 := by omega
  have i6 : (a : Int) + k = ak := by omega
  have j1 : y ≤ 143360 := by omega
  have j2 : a8 ≤ 143360 := by omega
  have j3 : ak ≤ 143360 := by omega
  have j4 : D ≤ 143360 := by omega
  have j5 : k8 ≤ 143360 := by omega
  have j6 : M ≤ 143360 := by omega
  have j7 : a ≤ 143360 := by omega
  rw [hx] at e3
  rw [hy] at e4
  have hI8 : isI v := by unfold isI; unfold inI at hv; omega
  have plain : ∀ B : List UInt8, B.length = L.b6 → cel (splice B a (by8 v)) a = v ∧ (splice B a (by8 v)).getD ak 0 = (by8 v).getD k 0 ∧ ((splice B a (by8 v)).set ak by_).getD ak 0 = by_ ∧ cel ((splice B a (by8 v)).set ak by_) a = cel ((by8 v).set k by_) 0 ∧ cel ((splice B a (by8 v)).set ak by_) a8 = cel B a8 := fun B hB => by
    have hf : a + (by8 v).length ≤ B.length := by rw [by8_length]; omega
    have hl := splice_len B a (by8 v) hf
    refine ⟨cel_same B a v hI8 (by omega), ?_, ?_, ?_, ?_⟩
    · rw [getD_in _ _ _ _ hf (by omega) (by rw [by8_length]; omega)]
      congr 1; omega
    · rw [getD_set, if_pos ⟨rfl, by omega⟩]
    · refine cel_congr _ _ _ _ fun j hj => ?_
      rw [getD_set, getD_set]
      by_cases hjk : j = k
      · rw [if_pos ⟨by omega, by omega⟩, if_pos ⟨by omega, by rw [by8_length]; omega⟩]
      · rw [if_neg (by omega), if_neg (by omega), getD_in _ _ _ _ hf (by omega) (by rw [by8_length]; omega)]
        congr 1; omega
    · rw [cel_setfar _ _ _ _ (by omega), cel_far _ _ _ _ hf (by rw [by8_length]; omega)]
  replace plain := Lib.hid plain
  have hsp := fun W p q B (h : Im W p q L B false true) => span_any p q L B false true 3 W h
  rw [e3, e4] at hsp
  replace hsp := Lib.hid hsp
  replace p1 := Lib.hid p1
  replace p2 := Lib.hid p2
  replace ra := Lib.hid ra
  replace ra8 := Lib.hid ra8
  replace rak := Lib.hid rak
  replace hfil := Lib.hid hfil
  replace hL := Lib.hid hL
  clear hx hy hbl hm hev hu hka hk hD hM e3 e4 ha ha8 hak hk8' h0 h1 h2 h3 h4 hat hk0 hxe hye
  go_enter Try.func4, Try.ntmps4
  go_wp2_with (fail)
  have hK := Bk.fresh w 39 #[.int .i64 a0, .int .i64 a1, .int .i64 a2, .int .i64 a3, .int .i64 a4]
  have hB := (Below.refl w.heap.size w).alloc (Nat.le_refl _) (.cells #[.int .i64 a0, .int .i64 a1, .int .i64 a2, .int .i64 a3, .int .i64 a4] 39)
  obtain ⟨V, hV⟩ : ∃ V, w.alloc (.cells #[.int .i64 a0, .int .i64 a1, .int .i64 a2, .int .i64 a3, .int .i64 a4] 39) = V := ⟨_, rfl⟩
  rw [hV] at hK hB ⊢
  clear hV
  refine (shown_any V).mono ?_
  rintro e w1 ⟨rfl, hb1⟩
  replace hK := hK.kept hb1 hK.lt
  replace hB := hB.trans (hb1.mono hB.size)
  clear hb1
  have c0 := hK.cell 0
  have c1 := hK.cell 1
  have c2 := hK.cell 2
  have c3 := hK.cell 3
  have c4 := hK.cell 4
  simp at c0 c1 c2 c3 c4
  clear hK
  go_wp2_with (fail)
  refine (hfil.out w1).mono ?_
  rintro e w2 ⟨p, q, B0, rfl, hI, hp, hq, hb2⟩
  replace hp := Nat.le_trans hB.size hp
  replace hq := Nat.le_trans hB.size hq
  replace hB := hB.trans (hb2.mono hB.size)
  clear hb2 c0 c1 c2 c3 c4
  replace hI := Lib.hid hI
  replace hp := Lib.hid hp
  replace hq := Lib.hid hq
  go_wp2_with (fail)
  refine (hsp.out w2 p q B0 hI.out).mono ?_
  rintro e w3 ⟨rfl, nq, rfl⟩
  replace hI := Lib.hid (hI.out.draws nq)
  replace hB : Below w.heap.size w (w2.drewN nq) := hB.trans ⟨rfl, rfl, rfl, Nat.le_refl _, fun _ _ => rfl⟩
  obtain ⟨w4, hw4⟩ : ∃ w4, w2.drewN nq = w4 := ⟨_, rfl⟩
  rw [hw4] at hI hB ⊢
  clear hw4
  go_wp2_with (fail)
  refine (p1.out w4).mono ?_
  rintro e w5 ⟨rfl, rfl⟩
  obtain ⟨g1, g2, g3, g4, g5⟩ := plain.out B0 hI.out.len
  obtain ⟨nx, hnx⟩ : ∃ nx, cel B0 a8 = nx := ⟨_, rfl⟩
  obtain ⟨B1, hB1⟩ : ∃ B1, splice B0 a (by8 v) = B1 := ⟨_, rfl⟩
  rw [hB1] at g1 g2 g3 g4 g5
  obtain ⟨c1, hc1⟩ : ∃ c1, (by8 v).getD k 0 = c1 := ⟨_, rfl⟩
  obtain ⟨Z, hZ⟩ : ∃ Z, cel ((by8 v).set k by_) 0 = Z := ⟨_, rfl⟩
  rw [hc1] at g2
  rw [hZ] at g4
  rw [hnx] at g5
  replace g1 := Lib.hid g1
  replace g2 := Lib.hid g2
  replace g3 := Lib.hid g3
  replace g4 := Lib.hid g4
  replace g5 := Lib.hid g5
  replace hB1 := Lib.hid hB1
  replace hnx := Lib.hid hnx
  replace hc1 := Lib.hid hc1
  replace hZ := Lib.hid hZ
  go_wp2_with (fail)
  refine (cell_yes hI.out a8 nx ea8 (ra8.out 2 1 (by decide)) hnx.out).mono ?_
  rintro e w6 ⟨rfl, hb⟩
  replace hI := Lib.hid (hI.out.bel hb)
  replace hB := hB.trans (hb.mono hB.size)
  clear hb
  go_wp2_with (fail)
  refine (setcell_yes hI.out a v ea (ra.out 1 2 (by decide))).mono ?_
  rw [hB1.out]
  rintro e w7 ⟨rfl, hI2, hO⟩
  replace hB := hO.bel hB hq.out
  clear hO hI
  replace hI := Lib.hid hI2
  clear hI2
  go_wp2_with (fail)
  refine (cell_yes hI.out a v ea (ra.out 1 1 (by decide)) g1.out).mono ?_
  rintro e w8 ⟨rfl, hb⟩
  replace hI := Lib.hid (hI.out.bel hb)
  replace hB := hB.trans (hb.mono hB.size)
  clear hb
  go_wp2_with (fail)
  refine (p2.out w8).mono ?_
  rintro e w9 ⟨rfl, rfl⟩
  go_wp2_with (fail)
  refine (byte_yes hI.out ak c1 (rak.out 2 1 (by decide)) g2.out).mono ?_
  rintro e w10 ⟨rfl, rfl⟩
  go_wp2_with (fail)
  refine (setbyte_yes hI.out ak by_ (rak.out 1 2 (by decide))).mono ?_
  rintro e w11 ⟨rfl, hI2, hO⟩
  replace hB := hO.bel hB hq.out
  clear hO hI
  replace hI := Lib.hid hI2
  clear hI2
  go_wp2_with (fail)
  refine (byte_yes hI.out ak by_ (rak.out 1 1 (by decide)) g3.out).mono ?_
  rintro e w12 ⟨rfl, rfl⟩
  go_wp2_with (fail)
  refine (cell_yes hI.out a Z ea (ra.out 1 1 (by decide)) g4.out).mono ?_
  rintro e w13 ⟨rfl, hb⟩
  replace hI := Lib.hid (hI.out.bel hb)
  replace hB := hB.trans (hb.mono hB.size)
  clear hb
  go_wp2_with (fail)
  refine (cell_yes hI.out a8 nx ea8 (ra8.out 1 1 (by decide)) g5.out).mono ?_
  rintro e w14 ⟨rfl, hb⟩
  replace hB := hB.trans (hb.mono hB.size)
  clear hb hI
  have hcase : k = 0 ∨ k = 1 ∨ k = 2 ∨ k = 3 ∨ k = 4 ∨ k = 5 ∨ k = 6 ∨ k = 7 := by omega
  rcases hcase with rfl | rfl | rfl | rfl | rfl | rfl | rfl | rfl
  · have w1 : IntKind.i64.wrap (8 * 0) = 0 := by decide
    have w2 : IntKind.i64.wrap 0 = 0 := by decide
    have w3 : IntKind.i64.wrap 255 = 255 := by decide
    have hcb := c1.toNat_lt
    have hbb := by_.toNat_lt
    have w4 : IntKind.i64.wrap (c1.toNat : Int) = c1.toNat := by rw [IntKind.wrap_i64]; omega
    have w6 : IntKind.i64.wrap (by_.toNat : Int) = by_.toNat := by rw [IntKind.wrap_i64]; omega
    have t1 : bits .and .i64 v 255 = (c1.toNat : Int) := by
      rw [i64_and255, ← hc1.out, by8_get v 0 (by decide), pow256.1, Int.ediv_one]
    have t2 : bits .or .i64 (bits .andNot .i64 v (255)) (by_.toNat : Int) = Z := by rw [cell_set0]; exact hZ.out
    go_wp2_with (fail)
    go_quiet (fail)
    go_wp2_with (fail)
    go_returns
    exact ⟨rfl, hB.trans ⟨rfl, rfl, rfl, Nat.le_refl _, fun _ _ => rfl⟩⟩
  · have w1 : IntKind.i64.wrap (8 * 1) = 8 := by decide
    have w2 : IntKind.i64.wrap 8 = 8 := by decide
    have w3 : IntKind.i64.wrap 65280 = 65280 := by decide
    have hcb := c1.toNat_lt
    have hbb := by_.toNat_lt
    have w4 : IntKind.i64.wrap (c1.toNat : Int) = c1.toNat := by rw [IntKind.wrap_i64]; omega
    have w6 : IntKind.i64.wrap (by_.toNat : Int) = by_.toNat := by rw [IntKind.wrap_i64]; omega
    have w5 : IntKind.i64.wrap ((by_.toNat : Int) * 256) = by_.toNat * 256 := by rw [IntKind.wrap_i64]; omega
    have t1 : bits .and .i64 (v / 256) 255 = (c1.toNat : Int) := by
      rw [i64_and255, ← hc1.out, by8_get v 1 (by decide), pow256.2.1]
    have t2 : bits .or .i64 (bits .andNot .i64 v (65280)) ((by_.toNat : Int) * 256) = Z := by rw [cell_set1]; exact hZ.out
    go_wp2_with (fail)
    go_quiet (fail)
    go_wp2_with (fail)
    go_returns
    exact ⟨rfl, hB.trans ⟨rfl, rfl, rfl, Nat.le_refl _, fun _ _ => rfl⟩⟩
  · have w1 : IntKind.i64.wrap (8 * 2) = 16 := by decide
    have w2 : IntKind.i64.wrap 16 = 16 := by decide
    have w3 : IntKind.i64.wrap 16711680 = 16711680 := by decide
    have hcb := c1.toNat_lt
    have hbb := by_.toNat_lt
    have w4 : IntKind.i64.wrap (c1.toNat : Int) = c1.toNat := by rw [IntKind.wrap_i64]; omega
    have w6 : IntKind.i64.wrap (by_.toNat : Int) = by_.toNat := by rw [IntKind.wrap_i64]; omega
    have w5 : IntKind.i64.wrap ((by_.toNat : Int) * 65536) = by_.toNat * 65536 := by rw [IntKind.wrap_i64]; omega
    have t1 : bits .and .i64 (v / 65536) 255 = (c1.toNat : Int) := by
      rw [i64_and255, ← hc1.out, by8_get v 2 (by decide), pow256.2.2.1]
    have t2 : bits .or .i64 (bits .andNot .i64 v (16711680)) ((by_.toNat : Int) * 65536) = Z := by rw [cell_set2]; exact hZ.out
    go_wp2_with (fail)
    go_quiet (fail)
    go_wp2_with (fail)
    go_returns
    exact ⟨rfl, hB.trans ⟨rfl, rfl, rfl, Nat.le_refl _, fun _ _ => rfl⟩⟩
  · have w1 : IntKind.i64.wrap (8 * 3) = 24 := by decide
    have w2 : IntKind.i64.wrap 24 = 24 := by decide
    have w3 : IntKind.i64.wrap 4278190080 = 4278190080 := by decide
    have hcb := c1.toNat_lt
    have hbb := by_.toNat_lt
    have w4 : IntKind.i64.wrap (c1.toNat : Int) = c1.toNat := by rw [IntKind.wrap_i64]; omega
    have w6 : IntKind.i64.wrap (by_.toNat : Int) = by_.toNat := by rw [IntKind.wrap_i64]; omega
    have w5 : IntKind.i64.wrap ((by_.toNat : Int) * 16777216) = by_.toNat * 16777216 := by rw [IntKind.wrap_i64]; omega
    have t1 : bits .and .i64 (v / 16777216) 255 = (c1.toNat : Int) := by
      rw [i64_and255, ← hc1.out, by8_get v 3 (by decide), pow256.2.2.2.1]
    have t2 : bits .or .i64 (bits .andNot .i64 v (4278190080)) ((by_.toNat : Int) * 16777216) = Z := by rw [cell_set3]; exact hZ.out
    go_wp2_with (fail)
    go_quiet (fail)
    go_wp2_with (fail)
    go_returns
    exact ⟨rfl, hB.trans ⟨rfl, rfl, rfl, Nat.le_refl _, fun _ _ => rfl⟩⟩
  · have w1 : IntKind.i64.wrap (8 * 4) = 32 := by decide
    have w2 : IntKind.i64.wrap 32 = 32 := by decide
    have w3 : IntKind.i64.wrap 1095216660480 = 1095216660480 := by decide
    have hcb := c1.toNat_lt
    have hbb := by_.toNat_lt
    have w4 : IntKind.i64.wrap (c1.toNat : Int) = c1.toNat := by rw [IntKind.wrap_i64]; omega
    have w6 : IntKind.i64.wrap (by_.toNat : Int) = by_.toNat := by rw [IntKind.wrap_i64]; omega
    have w5 : IntKind.i64.wrap ((by_.toNat : Int) * 4294967296) = by_.toNat * 4294967296 := by rw [IntKind.wrap_i64]; omega
    have t1 : bits .and .i64 (v / 4294967296) 255 = (c1.toNat : Int) := by
      rw [i64_and255, ← hc1.out, by8_get v 4 (by decide), pow256.2.2.2.2.1]
    have t2 : bits .or .i64 (bits .andNot .i64 v (1095216660480)) ((by_.toNat : Int) * 4294967296) = Z := by rw [cell_set4]; exact hZ.out
    go_wp2_with (fail)
    go_quiet (fail)
    go_wp2_with (fail)
    go_returns
    exact ⟨rfl, hB.trans ⟨rfl, rfl, rfl, Nat.le_refl _, fun _ _ => rfl⟩⟩
  · have w1 : IntKind.i64.wrap (8 * 5) = 40 := by decide
    have w2 : IntKind.i64.wrap 40 = 40 := by decide
    have w3 : IntKind.i64.wrap 280375465082880 = 280375465082880 := by decide
    have hcb := c1.toNat_lt
    have hbb := by_.toNat_lt
    have w4 : IntKind.i64.wrap (c1.toNat : Int) = c1.toNat := by rw [IntKind.wrap_i64]; omega
    have w6 : IntKind.i64.wrap (by_.toNat : Int) = by_.toNat := by rw [IntKind.wrap_i64]; omega
    have w5 : IntKind.i64.wrap ((by_.toNat : Int) * 1099511627776) = by_.toNat * 1099511627776 := by rw [IntKind.wrap_i64]; omega
    have t1 : bits .and .i64 (v / 1099511627776) 255 = (c1.toNat : Int) := by
      rw [i64_and255, ← hc1.out, by8_get v 5 (by decide), pow256.2.2.2.2.2.1]
    have t2 : bits .or .i64 (bits .andNot .i64 v (280375465082880)) ((by_.toNat : Int) * 1099511627776) = Z := by rw [cell_set5]; exact hZ.out
    go_wp2_with (fail)
    go_quiet (fail)
    go_wp2_with (fail)
    go_returns
    exact ⟨rfl, hB.trans ⟨rfl, rfl, rfl, Nat.le_refl _, fun _ _ => rfl⟩⟩
  · have w1 : IntKind.i64.wrap (8 * 6) = 48 := by decide
    have w2 : IntKind.i64.wrap 48 = 48 := by decide
    have w3 : IntKind.i64.wrap 71776119061217280 = 71776119061217280 := by decide
    have hcb := c1.toNat_lt
    have hbb := by_.toNat_lt
    have w4 : IntKind.i64.wrap (c1.toNat : Int) = c1.toNat := by rw [IntKind.wrap_i64]; omega
    have w6 : IntKind.i64.wrap (by_.toNat : Int) = by_.toNat := by rw [IntKind.wrap_i64]; omega
    have w5 : IntKind.i64.wrap ((by_.toNat : Int) * 281474976710656) = by_.toNat * 281474976710656 := by rw [IntKind.wrap_i64]; omega
    have t1 : bits .and .i64 (v / 281474976710656) 255 = (c1.toNat : Int) := by
      rw [i64_and255, ← hc1.out, by8_get v 6 (by decide), pow256.2.2.2.2.2.2.1]
    have t2 : bits .or .i64 (bits .andNot .i64 v (71776119061217280)) ((by_.toNat : Int) * 281474976710656) = Z := by rw [cell_set6]; exact hZ.out
    go_wp2_with (fail)
    go_quiet (fail)
    go_wp2_with (fail)
    go_returns
    exact ⟨rfl, hB.trans ⟨rfl, rfl, rfl, Nat.le_refl _, fun _ _ => rfl⟩⟩
  · have w1 : IntKind.i64.wrap (8 * 7) = 56 := by decide
    have w2 : IntKind.i64.wrap 56 = 56 := by decide
    have w3 : IntKind.i64.wrap 18374686479671623680 = -72057594037927936 := by decide
    have hcb := c1.toNat_lt
    have hbb := by_.toNat_lt
    have w4 : IntKind.i64.wrap (c1.toNat : Int) = c1.toNat := by rw [IntKind.wrap_i64]; omega
    have w6 : IntKind.i64.wrap (by_.toNat : Int) = by_.toNat := by rw [IntKind.wrap_i64]; omega
    have w5 : IntKind.i64.wrap ((by_.toNat : Int) * 72057594037927936) = wrap64 ((by_.toNat : Int) * 72057594037927936) := wrap64_of _
    have t1 : bits .and .i64 (v / 72057594037927936) 255 = (c1.toNat : Int) := by
      rw [i64_and255, ← hc1.out, by8_get v 7 (by decide), pow256.2.2.2.2.2.2.2]
    have t2 : bits .or .i64 (bits .andNot .i64 v (-72057594037927936)) (wrap64 ((by_.toNat : Int) * 72057594037927936)) = Z := by rw [cell_set7]; exact hZ.out
    go_wp2_with (fail)
    go_quiet (fail)
    go_wp2_with (fail)
    go_returns
    exact ⟨rfl, hB.trans ⟨rfl, rfl, rfl, Nat.le_refl _, fun _ _ => rfl⟩⟩
end Go.Proofs.Yteldbkdfphkdbaa
