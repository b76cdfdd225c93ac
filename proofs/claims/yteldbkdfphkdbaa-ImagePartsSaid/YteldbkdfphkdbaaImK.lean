import Derived.Test.YteldbkdfphkdbaaImJ
namespace Go.Proofs.Yteldbkdfphkdbaa
open Go.RowKit
set_option linter.unusedVariables false
set_option linter.unusedSimpArgs false
theorem part_splice (L : Lay) (B X : List UInt8) (r : Int) (hX : X.length = L.to_ r - L.from_ r) (hf : L.from_ r + X.length ≤ B.length) : partL L (splice B (L.from_ r) X) r = X := by
  have := rowL_splice B X (L.from_ r) (L.to_ r - L.from_ r) hX (by omega)
  exact this
theorem load_len (B S : List UInt8) (x z : Nat) (hf : x + z ≤ B.length) (hS : S.length ≤ z) : (loadL B x z S).length = B.length := by
  unfold loadL
  have h1 := splice_len B x S (by omega)
  rw [splice_len _ _ _ (by rw [h1, List.length_replicate]; omega), h1]
theorem load_getD (B S : List UInt8) (x z i : Nat) (hf : x + z ≤ B.length) (hS : S.length ≤ z) (hi : i < z) : (loadL B x z S).getD (x + i) 0 = S.getD i 0 := by
  unfold loadL
  have h1 := splice_len B x S (by omega)
  by_cases h : i < S.length
  · rw [getD_lo _ _ _ _ (by rw [h1, List.length_replicate]; omega) (by omega), getD_in _ _ _ _ (by omega) (by omega) (by omega)]
    congr 1; omega
  · rw [getD_in _ _ _ _ (by rw [h1, List.length_replicate]; omega) (by omega) (by rw [List.length_replicate]; omega)]
    rw [List.getD_eq_getElem?_getD, List.getD_eq_getElem?_getD, List.getElem?_eq_none (l := S) (by omega)]
    simp [List.getElem?_replicate]
    split <;> rfl
theorem part_load (L : Lay) (hL : L.ok) (B : List UInt8) (hB : B.length = L.b6) (H : ByteArray) (hH : H.size ≤ L.to_ 2 - L.from_ 2) (N : ByteArray) (hN : (⟨(partL L (loadL B (L.from_ 2) (L.to_ 2 - L.from_ 2) H.data.toList) 2).toArray⟩ : ByteArray) = N) : N.size = L.to_ 2 - L.from_ 2 ∧ N.extract 0 H.size = H ∧ ∀ i (hi : i < N.size), H.size ≤ i → N[i] = 0 := by
  have hle := Lay.from_le hL 2
  have hll := load_len B H.data.toList (L.from_ 2) (L.to_ 2 - L.from_ 2) (by omega) (by rw [data_size]; exact hH)
  have key := fun i (hi : i < L.to_ 2 - L.from_ 2) => part_getD L (loadL B (L.from_ 2) (L.to_ 2 - L.from_ 2) H.data.toList) 2 i hi
  have key2 := fun i (hi : i < L.to_ 2 - L.from_ 2) => load_getD B H.data.toList (L.from_ 2) (L.to_ 2 - L.from_ 2) i (by omega) (by rw [data_size]; exact hH) hi
  have hpl : (partL L (loadL B (L.from_ 2) (L.to_ 2 - L.from_ 2) H.data.toList) 2).length = L.to_ 2 - L.from_ 2 := by
    unfold partL
    rw [List.length_take, List.length_drop, hll]; omega
  generalize partL L (loadL B (L.from_ 2) (L.to_ 2 - L.from_ 2) H.data.toList) 2 = P at *
  have hNs : N.size = L.to_ 2 - L.from_ 2 := by rw [← hN]; exact hpl
  refine ⟨hNs, ?_, fun i hi hge => ?_⟩
  · rw [← hN]
    ext1
    rw [ByteArray.data_extract]
    apply Array.toList_inj.1
    rw [Array.toList_extract]
    simp only [List.extract, List.drop_zero, Nat.sub_zero]
    refine list_ext _ _ (by rw [List.length_take, hpl, data_size]; omega) fun j hj => ?_
    have hj2 : j < H.size := by rw [List.length_take] at hj; omega
    rw [List.getD_eq_getElem?_getD, List.getElem?_take_of_lt hj2, ← List.getD_eq_getElem?_getD, key j (by omega), key2 j (by omega)]
  · have h1 := key i (by omega)
    rw [key2 i (by omega), List.getD_eq_getElem?_getD, List.getD_eq_getElem?_getD, List.getElem?_eq_none (l := H.data.toList) (by rw [data_size]; exact hge), List.getElem?_eq_getElem (by omega)] at h1
    have h2 : N[i] = P[i]'(by omega) := by subst hN; rfl
    rw [h2]
    simpa using h1
set_option maxRecDepth 100000 in
set_option maxHeartbeats 4000000 in
theorem walk_parts (a0 a1 a2 a3 a4 c d rg : Int) (H : ByteArray) (w : World) (h0 : inI a0) (h1 : inI a1) (h2 : inI a2) (h3 : inI a3) (h4 : inI a4) (hc : inI c) (hd : inI d) (hrg : inI rg) (hH : H.size ≤ 140737488351232) :
    Calls Try.prog 5 #[.agg #[.int .i64 a0, .int .i64 a1, .int .i64 a2, .int .i64 a3, .int .i64 a4], .int .i64 c, .int .i64 d, .int .i64 rg, .string H] w fun e w' => e = .returned (.bool true) ∧ Below w.heap.size w w' := by
  have hf1 := fun W => filled_any a0 a1 a2 a3 a4 c false false W h0 h1 h2 h3 h4 hc
  have hf2 := fun W => filled_any a0 a1 a2 a3 a4 d false true W h0 h1 h2 h3 h4 hd
  have hL := layOf_ok a0 a1 a2 a3 a4
  generalize layOf a0 a1 a2 a3 a4 = L at *
  obtain ⟨k, hk, hk4⟩ : ∃ k, pickN rg 4 = k ∧ k < 4 := ⟨_, rfl, pickN_lt rg 4 (by decide)⟩
  have p1 : ∀ W, Calls Try.prog 22 #[.int .i64 rg, .int .i64 4] W fun e w' => e = .returned (.int .i64 k) ∧ w' = W := fun W => by
    have := pick_any rg 4 W hrg.1 hrg.2 (by decide) (by decide)
    rwa [show (4 : Int).toNat = 4 from rfl, hk] at this
  clear hk h0 h1 h2 h3 h4 hc hd hrg
  obtain ⟨r, hr, hr2, hr5⟩ : ∃ r : Nat, (2 : Int) + k = r ∧ 2 ≤ r ∧ r ≤ 5 := ⟨2 + k, by omega, by omega, by omega⟩
  replace hf1 := Lib.hid hf1
  replace hf2 := Lib.hid hf2
  replace p1 := Lib.hid p1
  replace hL := Lib.hid hL
  go_enter Try.func5, Try.ntmps5
  go_wp2_with (fail)
  have hK := Bk.fresh w 39 #[.int .i64 a0, .int .i64 a1, .int .i64 a2, .int .i64 a3, .int .i64 a4]
  have hB := (Below.refl w.heap.size w).alloc (Nat.le_refl _) (.cells #[.int .i64 a0, .int .i64 a1, .int .i64 a2, .int .i64 a3, .int .i64 a4] 39)
  obtain ⟨V, hV⟩ : ∃ V, w.alloc (.cells #[.int .i64 a0, .int .i64 a1, .int .i64 a2, .int .i64 a3, .int .i64 a4] 39) = V := ⟨_, rfl⟩
  rw [hV] at hK hB ⊢
  clear hV
  refine (shown_any V).mono ?_
  rintro e w1 ⟨rfl, hb1⟩
  replace hK := hK.kept hb1 hK.lt
  replace hB := hB.trans (hb1.mono hB.size)
  clear hb1
  have c0 := hK.cell 0
  have c1 := hK.cell 1
  have c2 := hK.cell 2
  have c3 := hK.cell 3
  have c4 := hK.cell 4
  simp at c0 c1 c2 c3 c4
  go_wp2_with (fail)
  refine (hf1.out w1).mono ?_
  rintro e w2 ⟨p, q, B0, rfl, hI, hp, hq, hb2⟩
  replace hK := hK.kept hb2 hK.lt
  replace hp := Nat.le_trans hB.size hp
  replace hq := Nat.le_trans hB.size hq
  replace hB := hB.trans (hb2.mono hB.size)
  clear hb2 c0 c1 c2 c3 c4
  have c0 := hK.cell 0
  have c1 := hK.cell 1
  have c2 := hK.cell 2
  have c3 := hK.cell 3
  have c4 := hK.cell 4
  simp at c0 c1 c2 c3 c4
  clear hK
  replace hI := Lib.hid hI
  replace hp := Lib.hid hp
  replace hq := Lib.hid hq
  go_wp2_with (fail)
  refine (hf2.out w2).mono ?_
  rintro e w3 ⟨p2, q2, B2, rfl, hI2, hp2, hq2, hb3⟩
  replace hI := Lib.hid (hI.out.bel hb3)
  have hqq : w2.heap.size ≤ q2 := hq2
  replace hp2 := Nat.le_trans hB.size hp2
  replace hq2 := Nat.le_trans hB.size hq2
  replace hB := hB.trans (hb3.mono hB.size)
  clear hb3 c0 c1 c2 c3 c4 hqq
  replace hI2 := Lib.hid hI2
  replace hp2 := Lib.hid hp2
  replace hq2 := Lib.hid hq2
  go_wp2_with (fail)
  refine (p1.out w3).mono ?_
  rintro e w4 ⟨rfl, rfl⟩
  go_wp2_with (fail)
  refine (Part_any hI.out r).mono ?_
  rintro e w5 ⟨rfl, n5, rfl⟩
  have xl := part_len hI.out r
  obtain ⟨X, hX⟩ : ∃ X, partL L B0 r = X := ⟨_, rfl⟩
  rw [hX] at xl ⊢
  clear hX hI
  replace hI2 := Lib.hid (hI2.out.draws n5)
  replace hB : Below w.heap.size w (w4.drewN n5) := hB.trans ⟨rfl, rfl, rfl, Nat.le_refl _, fun _ _ => rfl⟩
  have hle := Lay.from_le hL.out r
  have hput := put_yes hI2.out r ⟨X.toArray⟩ (by omega) (by omega) (by omega) xl
  have hps := part_splice L B2 X r xl (by rw [hI2.out.len, xl]; omega)
  replace hput : Hid (Calls Try.prog 28 #[.pointer (some ⟨p2, 0, none⟩), .int .i64 r, .string ⟨X.toArray⟩] (w4.drewN n5) fun e w' => e = .returned (.int .i64 0) ∧ Im w' p2 q2 L (splice B2 (L.from_ r) X) false true ∧ Only q2 (w4.drewN n5) w') := Lib.hid hput
  obtain ⟨w6, hw6⟩ : ∃ w6, w4.drewN n5 = w6 := ⟨_, rfl⟩
  rw [hw6] at hput hI2 hB ⊢
  clear hw6 hle xl
  obtain ⟨B3, hB3⟩ : ∃ B3, splice B2 (L.from_ r) X = B3 := ⟨_, rfl⟩
  rw [hB3] at hput hps
  clear hB3 hI2
  obtain ⟨Y, hY⟩ : ∃ Y : ByteArray, (⟨X.toArray⟩ : ByteArray) = Y := ⟨_, rfl⟩
  rw [hY] at hput ⊢
  replace hps : Hid ((⟨(partL L B3 r).toArray⟩ : ByteArray) = Y) := Lib.hid (by rw [hps]; exact hY)
  clear hY
  go_wp2_with (fail)
  refine hput.out.mono ?_
  rintro e w7 ⟨rfl, hI, hO⟩
  replace hB := hO.bel hB hq2.out
  clear hput hO
  have hpa := Part_any hI r
  rw [hps.out] at hpa
  replace hpa := Lib.hid hpa
  replace hI := Lib.hid hI
  go_wp2_with (fail)
  refine hpa.out.mono ?_
  rintro e w8 ⟨rfl, n8, rfl⟩
  clear hpa
  replace hI := Lib.hid (hI.out.draws n8)
  replace hB : Below w.heap.size w (w7.drewN n8) := hB.trans ⟨rfl, rfl, rfl, Nat.le_refl _, fun _ _ => rfl⟩
  obtain ⟨w9, hw9⟩ : ∃ w9, w7.drewN n8 = w9 := ⟨_, rfl⟩
  rw [hw9] at hI hB ⊢
  clear hw9
  go_wp2_with (fail)
  have wl := part_len hI.out 2
  refine (Part_any hI.out 2).mono ?_
  rintro e w10 ⟨rfl, n10, rfl⟩
  replace hI := Lib.hid (hI.out.draws n10)
  replace hB : Below w.heap.size w (w9.drewN n10) := hB.trans ⟨rfl, rfl, rfl, Nat.le_refl _, fun _ _ => rfl⟩
  obtain ⟨w11, hw11⟩ : ∃ w11, w9.drewN n10 = w11 := ⟨_, rfl⟩
  rw [hw11] at hI hB ⊢
  clear hw11
  obtain ⟨X2, hX2⟩ : ∃ X : ByteArray, (⟨(partL L B3 2).toArray⟩ : ByteArray) = X := ⟨_, rfl⟩
  have z1 : X2.size = L.to_ 2 - L.from_ 2 := by rw [← hX2]; exact wl
  rw [hX2]
  clear wl
  have hle := Lay.from_le hL.out 2
  have hm := Lay.mono hL.out
  by_cases hlong : H.size ≤ L.to_ 2 - L.from_ 2
  · have hld := load_yes hI.out H hlong
    have hpl := part_load L hL.out B3 hI.out.len H hlong _ rfl
    obtain ⟨B4, hB4⟩ : ∃ B4, loadL B3 (L.from_ 2) (L.to_ 2 - L.from_ 2) H.data.toList = B4 := ⟨_, rfl⟩
    rw [hB4] at hld hpl
    clear hB4
    obtain ⟨N, hN⟩ : ∃ N : ByteArray, (⟨(partL L B4 2).toArray⟩ : ByteArray) = N := ⟨_, rfl⟩
    rw [hN] at hpl
    obtain ⟨g1, g2, g3⟩ := hpl
    have hz : L.to_ 2 - L.from_ 2 ≤ 200000 := by omega
    generalize L.to_ 2 - L.from_ 2 = z at *
    replace hld := Lib.hid hld
    replace hN := Lib.hid hN
    replace g3 := Lib.hid g3
    clear hX2 hle hm
    have i1 : ¬ (z : Int) < H.size := by omega
    have i2 : (H.size : Int) ≤ z := by omega
    have i3 : (0 : Int) ≤ H.size := by omega
    go_wp2_with (fail)
    refine hld.out.mono ?_
    rintro e w12 ⟨rfl, hI4, hO⟩
    replace hB := hO.bel hB hq2.out
    clear hld hO hI
    have hpa := Part_any hI4 2
    rw [hN.out] at hpa
    replace hpa := Lib.hid hpa
    clear hI4
    go_wp2_with (fail)
    refine hpa.out.mono ?_
    rintro e w13 ⟨rfl, n13, rfl⟩
    replace hB : Below w.heap.size w (w12.drewN n13) := hB.trans ⟨rfl, rfl, rfl, Nat.le_refl _, fun _ _ => rfl⟩
    obtain ⟨w14, hw14⟩ : ∃ w14, w12.drewN n13 = w14 := ⟨_, rfl⟩
    rw [hw14] at hB ⊢
    clear hw14 hpa
    go_wp2_with (fail)
    go_loop [20] (fun i => ∃ j : Nat, i = .int .i64 j ∧ H.size ≤ j ∧ j ≤ z) (fun i => z - (intOf i).toNat)
    case atStart => exact ⟨H.size, rfl, Nat.le_refl _, hlong⟩
    case round =>
      obtain ⟨j, rfl, hj1, hj2⟩ := hrel
      by_cases hlt : j < z
      · have j1 : (j : Int) < z := by omega
        have j0 : (0 : Int) ≤ j := by omega
        have jN : j < N.size := by rw [g1]; exact hlt
        have hx := g3.out j jN hj1
        have hx2 : ((N[j].toNat : Int) != 0) = false := by rw [hx]; rfl
        replace hx := Lib.hid hx
        go_wp2_with (fail)
        exact ⟨⟨j + 1, by go_num, by omega, by omega⟩, by simp [intOf]; omega⟩
      · obtain rfl : j = z := by omega
        go_wp2_with (fail)
        go_returns
        exact ⟨rfl, hB⟩
  · have hld := load_long hI.out H (by omega) (by omega)
    have hz : L.to_ 2 - L.from_ 2 ≤ 200000 := by omega
    generalize L.to_ 2 - L.from_ 2 = z at *
    replace hld := Lib.hid hld
    clear hle hm
    have i1 : (z : Int) < H.size := by omega
    go_wp2_with (fail)
    refine hld.out.mono ?_
    rintro e w12 ⟨rfl, n12, rfl⟩
    replace hI := hI.out.draws n12
    replace hB : Below w.heap.size w (w11.drewN n12) := hB.trans ⟨rfl, rfl, rfl, Nat.le_refl _, fun _ _ => rfl⟩
    obtain ⟨w13, hw13⟩ : ∃ w13, w11.drewN n12 = w13 := ⟨_, rfl⟩
    rw [hw13] at hI hB ⊢
    clear hw13 hld
    have hpa := Part_any hI 2
    rw [hX2] at hpa
    replace hpa := Lib.hid hpa
    clear hI hX2
    go_wp2_with (fail)
    refine hpa.out.mono ?_
    rintro e w14 ⟨rfl, n14, rfl⟩
    go_wp2_with (fail)
    go_returns
    exact ⟨rfl, hB.trans ⟨rfl, rfl, rfl, Nat.le_refl _, fun _ _ => rfl⟩⟩
end Go.Proofs.Yteldbkdfphkdbaa
