import Derived.Test.YtoaiiimnfgbcaaaRdF
namespace Go.Proofs.Ytoaiiimnfgbcaaa
open Go.RowKit
attribute [local go_sem] Oper.semAt_some
set_option linter.unusedVariables false
set_option linter.unusedSimpArgs false
/-! chapter 8: the document's head, a word -/
section
variable {W W' w : World} {q m g₀ n : Nat} {B : List UInt8} {cl : Bool} {h l : Nat}
set_option maxRecDepth 100000 in
set_option maxHeartbeats 4000000 in
theorem rhead_in_yes (D : Rd w q m g₀ n B cl h l) (a : Nat) (h8 : (a : Int) % 8 = 0) (hf : g₀ + 8 ≤ a) (hy : a + 16 ≤ g₀ + n) (hm1 : (B.getD (a + 8) 0).toNat % 32 ≠ 0) (hup : upN (a + 9 + (B.getD (a + 8) 0).toNat % 32) ≤ g₀ + n) : Calls Try.prog 56 #[.pointer (some ⟨q, 0, none⟩), .int .i64 a] w fun e w' => e = .returned (.tuple #[wdV (wdB B a (B.getD (a + 8) 0)), .int .i64 (cel B a), .bool true]) ∧ Below w.heap.size w w' := by
  have y8 : ((a : Int) % 8 != 0) = false := by simpa using h8
  have hfar := D.far
  have hn24 := D.n24
  have hb' : (g₀ : Int) ≤ 143360 := by omega
  have i1 : ¬ (a : Int) < (g₀ : Int) + 8 := by omega
  obtain ⟨y, hyy⟩ : ∃ y, g₀ + n = y := ⟨_, rfl⟩
  have i2 : decide ((y : Int) - 16 < a) = false := decide_eq_false (by omega)
  have e9 : IntKind.i64.wrap ((y : Int) - 16) = y - 16 := by rw [IntKind.wrap_i64]; omega
  obtain ⟨i, hi⟩ : ∃ i, a + 8 - g₀ = i := ⟨_, rfl⟩
  have e10 : IntKind.i64.wrap ((a : Int) + 8) = (a : Int) + 8 := by rw [IntKind.wrap_i64]; omega
  have e8 : IntKind.i64.wrap ((a : Int) + 8 - g₀) = (i : Int) := by rw [IntKind.wrap_i64]; omega
  have x1 : (i : Int) < n := by omega
  have x2 : (0 : Int) ≤ i := by omega
  have x3 : ¬ (i : Int) < 0 := by omega
  obtain ⟨c, hc⟩ : ∃ c, B.getD (a + 8) 0 = c := ⟨_, rfl⟩
  have hia : g₀ + i = a + 8 ∧ i < n := by omega
  obtain ⟨mm, hm⟩ : ∃ mm, c.toNat % 32 = mm := ⟨_, rfl⟩
  have hc256 := c.toNat_lt
  have e11 : (c.toNat : Int).tmod 32 = (mm : Int) := by rw [Int.tmod_eq_emod_of_nonneg (by omega)]; omega
  have e16 : (c.toNat : Int) % 32 = (mm : Int) := by omega
  have e12 : IntKind.i64.wrap (c.toNat : Int) = c.toNat := by rw [IntKind.wrap_i64]; omega
  have e13 : IntKind.i64.wrap ((a : Int) + 9) = (a : Int) + 9 := by rw [IntKind.wrap_i64]; omega
  obtain ⟨z, hz⟩ : ∃ z, a + 9 + mm = z := ⟨_, rfl⟩
  have e14 : IntKind.i64.wrap ((a : Int) + 9 + mm) = (z : Int) := by rw [IntKind.wrap_i64]; omega
  have hU := fun w => rup_any z (by omega) w
  obtain ⟨uz, huz⟩ : ∃ uz, upN z = uz := ⟨_, rfl⟩
  rw [huz] at hU
  have hzu := upN_le z
  rw [huz] at hzu
  have hDx := D.bel ((Below.refl w.heap.size w).alloc (Nat.le_refl _) (.cells (wdC wd0).toArray 34))
  have hBx : Below w.heap.size w (w.alloc (.cells (wdC wd0).toArray 34)) := (Below.refl _ _).alloc (Nat.le_refl _) _
  have r0 := Bk.fresh w 34 (wdC wd0).toArray
  obtain ⟨g, hg⟩ : ∃ g, w.heap.size = g := ⟨_, rfl⟩
  obtain ⟨W, hW⟩ : ∃ W, w.alloc (.cells (wdC wd0).toArray 34) = W := ⟨_, rfl⟩
  rw [hW] at hDx hBx r0
  rw [hg] at r0 hBx
  have hW' : w.alloc (.cells #[.string ⟨#[]⟩, .int .i64 0, .int .i64 0, .bool false, .bool false, .bool false] 34) = W := hW
  have c0 := hDx.c0
  have c1 := hDx.c1
  have hto0 := Lib.hid (rto_any hDx)
  have hto1 := Lib.hid (fun k => rto_any (hDx.draws k))
  have e0 := r0.cell 0
  have e1 := r0.cell 1
  have e2 := r0.cell 2
  have e3 := r0.cell 3
  have e4 := r0.cell 4
  have e5 := r0.cell 5
  simp [wdC, wd0] at e0 e1 e2 e3 e4 e5
  have f0 := r0.free 0
  have f1 := r0.free 1
  have f2 := r0.free 2
  have f3 := r0.free 3
  have f4 := r0.free 4
  have f5 := r0.free 5
  rw [hyy] at hto0 hto1
  replace hU := Lib.hid hU
  replace hia := Lib.hid hia
  replace hDx := Lib.hid hDx
  replace r0 := Lib.hid r0
  replace hBx := Lib.hid hBx
  clear hW
  go_enter Try.func56, Try.ntmps56
  go_wp2_with (fail)
  refine hto0.out.mono ?_
  rintro e w1 ⟨rfl, k1, hk1⟩
  have r0 := Lib.hid (r0.out.draws k1)
  have hBx := Lib.hid (below_drawn hBx.out k1)
  have D1 := hDx.out.draws k1
  obtain ⟨W2, hW2⟩ : ∃ W2, W.drewN k1 = W2 := ⟨_, rfl⟩
  rw [hW2] at r0 hBx hk1 D1
  subst hk1
  clear hW2 c0 c1 hto0 hto1
  have c0 := D1.c0
  have c1 := D1.c1
  have y0 := D1.byte i hia.out.2
  rw [hia.out.1, hc] at y0
  have r9 := r0
  replace D1 := Lib.hid D1
  clear e0 e1 e2 e3 e4 e5 f0 f1 f2 f3 f4 f5
  go_wp2_with (fail)
  go_quiet (fail)
  have D2 := D1.out.draws nq
  have r0 := Lib.hid (r9.out.draws nq)
  have hBx := Lib.hid (below_drawn hBx.out nq)
  have hto0 := Lib.hid (rto_any D2)
  rw [hyy] at hto0
  obtain ⟨w2, hw2⟩ : ∃ w2, w1.drewN nq = w2 := ⟨_, rfl⟩
  rw [hw2] at r0 hBx D2 hto0 ⊢
  clear hw2 c0 c1 y0 r9 D1
  have e0 := r0.out.cell 0
  have e1 := r0.out.cell 1
  have e2 := r0.out.cell 2
  have e3 := r0.out.cell 3
  have e4 := r0.out.cell 4
  have e5 := r0.out.cell 5
  simp [wdC, wd0] at e0 e1 e2 e3 e4 e5
  have f0 := r0.out.free 0
  have f1 := r0.out.free 1
  have f2 := r0.out.free 2
  have f3 := r0.out.free 3
  have f4 := r0.out.free 4
  have f5 := r0.out.free 5
  replace D2 := Lib.hid D2
  rw [hc, hm] at hm1
  rw [hc, hm, hz, huz, hyy] at hup
  have j1 : ((mm : Int) == 0) = false := by simp; omega
  have j2 : decide ((y : Int) < uz) = false := decide_eq_false (by omega)
  have j2n : decide (y < uz) = false := decide_eq_false (by omega)
  go_wp2_with (fail)
  refine (hU.out _).mono ?_
  rintro e w3 ⟨rfl, hw3⟩
  have hw3 := hw3.symm
  subst hw3
  go_wp2_with (fail)
  refine hto0.out.mono ?_
  rintro e w4 ⟨rfl, k2, hk2⟩
  have r0 := Lib.hid (r0.out.draws k2)
  have hBx := Lib.hid (below_drawn hBx.out k2)
  have D4 := D2.out.draws k2
  obtain ⟨W5, hW5⟩ : ∃ W5, w2.drewN k2 = W5 := ⟨_, rfl⟩
  rw [hW5] at r0 hBx hk2 D4
  subst hk2
  clear hW5 D2 hto0
  replace D4 := Lib.hid D4
  clear e0 e1 e2 e3 e4 e5 f0 f1 f2 f3 f4 f5
  go_wp2_with (fail)
  go_loopw [9, 10] (fun u ii wr => ∃ (k kk : Nat), u = .int .u64 (unB B a k : Int) ∧ ii = .int .i64 (7 - (k : Int)) ∧ k ≤ 8 ∧ wr = w4.drewN kk) (fun _ ii _ => (intOf ii + 1).toNat)
  case atStart => exact ⟨0, 0, rfl, rfl, by omega, rfl⟩
  case round =>
    obtain ⟨k, kk, rfl, rfl, hk8, hwr⟩ := hrel
    have D5 := D4.out.draws kk
    rw [← hwr] at D5
    by_cases hk : k < 8
    · have c0 := D5.c0
      have c1 := D5.c1
      obtain ⟨i5, hi5⟩ : ∃ i5, a + 7 - k - g₀ = i5 := ⟨_, rfl⟩
      have hb5 := D5.byte i5 (by have := hia.out; omega)
      rw [show g₀ + i5 = a + 7 - k by omega] at hb5
      have v1 : IntKind.i64.wrap ((a : Int) + (7 - (k : Int))) = (a : Int) + (7 - (k : Int)) := by rw [IntKind.wrap_i64]; omega
      have v2 : IntKind.i64.wrap ((a : Int) + (7 - (k : Int)) - g₀) = (i5 : Int) := by rw [IntKind.wrap_i64]; omega
      have v3 : IntKind.i64.wrap (7 - (k : Int) - 1) = 7 - ((k + 1 : Nat) : Int) := by rw [IntKind.wrap_i64]; omega
      have v4 : (i5 : Int) < n := by have := hia.out; omega
      have v5 : (0 : Int) ≤ i5 := by omega
      have v6 : ¬ (i5 : Int) < 0 := by omega
      have v7 : (0 : Int) ≤ 7 - (k : Int) := by omega
      obtain ⟨cc, hcc⟩ : ∃ cc, B.getD (a + 7 - k) 0 = cc := ⟨_, rfl⟩
      have hun : unB B a (k + 1) = unB B a k * 256 + cc.toNat := by rw [← hcc]; rfl
      have hu7 := unB_7 B a k hk
      rw [hcc] at hb5
      obtain ⟨u, hu⟩ : ∃ u, unB B a k = u := ⟨_, rfl⟩
      rw [hu] at hun hu7 ⊢
      have hcc2 := cc.toNat_lt
      have v8 := r8_or_byte u cc.toNat hu7 hcc2
      have v9 : IntKind.u64.wrap ((u : Int) * 256) = (u : Int) * 256 := by rw [IntKind.wrap_u64]; omega
      have v10 : IntKind.u64.wrap (cc.toNat : Int) = cc.toNat := by rw [IntKind.wrap_u64]; omega
      replace hun := Lib.hid hun
      replace hwr := Lib.hid hwr
      clear hu hcc hi5 D5
      go_wp2_with (fail)
      go_quiet (fail)
      go_wp2_with (fail)
      refine ⟨?_, ?_⟩
      · exact ⟨k + 1, kk + nq, by rw [hun.out]; first | rfl | simp | skip, by first | rfl | simp, by omega, by first | rfl | rw [hwr.out, World.drewN_drewN] | simp⟩
      · simp [intOf]
        omega
    · obtain rfl : k = 8 := by omega
      have c0 := D5.c0
      have c1 := D5.c1
      have v0 : ¬ (0 : Int) ≤ 7 - ((8 : Nat) : Int) := by omega
      obtain ⟨i9, hi9⟩ : ∃ i9, a + 9 - g₀ = i9 := ⟨_, rfl⟩
      have hlen := D5.len
      have hrun := fun t => conv_u8 (wr.drewN t) (some ⟨m, i9, none⟩) m i9 mm (n - i9) (rowL B (a + 9) mm) (rowL_len B (a + 9) mm (by omega)) (fun _ => rfl) (fun j hj => by
        have hj2 : j < mm := by rw [rowL_len B (a + 9) mm (by omega)] at hj; exact hj
        have := (D5.draws t).byte (i9 + j) (by omega)
        rw [this, show g₀ + (i9 + j) = a + 9 + j by omega]
        congr 4
        simp only [rowL, List.getElem_take, List.getElem_drop]
        rw [List.getD_eq_getElem?_getD, List.getElem?_eq_getElem (by omega)]
        rfl)
      have hcel := unB_cel B a
      obtain ⟨u, hu⟩ : ∃ u, unB B a 8 = u := ⟨_, rfl⟩
      rw [hu] at hcel ⊢
      obtain ⟨v, hv⟩ : ∃ v, cel B a = v := ⟨_, rfl⟩
      rw [hv] at hcel
      obtain ⟨R, hR⟩ : ∃ R, rowL B (a + 9) mm = R := ⟨_, rfl⟩
      rw [hR] at hrun
      obtain ⟨t6, ht6⟩ : ∃ t, (c.toNat / 64 % 2 == 1) = t := ⟨_, rfl⟩
      obtain ⟨t5, ht5⟩ : ∃ t, (c.toNat / 32 % 2 == 1) = t := ⟨_, rfl⟩
      obtain ⟨t7, ht7⟩ : ∃ t, (c.toNat / 128 == 1) = t := ⟨_, rfl⟩
      have g6 : ((c.toNat : Int) / 64 % 2 == 1) = t6 := by rw [← ht6, Bool.eq_iff_iff]; simp only [beq_iff_eq]; omega
      have g5 : ((c.toNat : Int) / 32 % 2 == 1) = t5 := by rw [← ht5, Bool.eq_iff_iff]; simp only [beq_iff_eq]; omega
      have g7 : ((c.toNat : Int) / 128 == 1) = t7 := by rw [← ht7, Bool.eq_iff_iff]; simp only [beq_iff_eq]; omega
      have hXe : wdB B a (B.getD (a + 8) 0) = ⟨⟨R.toArray⟩, a, uz, t6, t5, t7⟩ := by rw [hc]; unfold wdB; rw [hm, hR, hz, huz, ht6, ht5, ht7]
      replace hXe := Lib.hid hXe
      replace hv := Lib.hid hv
      clear ht6 ht5 ht7 hR
      have w1 : IntKind.i64.wrap ((a : Int) + 9 - g₀) = (i9 : Int) := by rw [IntKind.wrap_i64]; omega
      have w2 : IntKind.i64.wrap ((a : Int) + 9 + mm - g₀) = ((i9 + mm : Nat) : Int) := by rw [IntKind.wrap_i64]; omega
      have w2b : IntKind.i64.wrap ((z : Int) - g₀) = ((i9 + mm : Nat) : Int) := by rw [IntKind.wrap_i64]; omega
      have w3 : (0 : Int) ≤ i9 := by omega
      have w4 : ((i9 + mm : Nat) : Int) ≤ n := by omega
      have w5 : (i9 : Int) ≤ ((i9 + mm : Nat) : Int) := by omega
      have w6 : ¬ (i9 : Int) < 0 := by omega
      have w7 : ((i9 + mm : Nat) : Int) - i9 = mm := by omega
      have w8 : (i9 + mm) - i9 = mm := by omega
      replace hwr := Lib.hid hwr
      replace D5 := Lib.hid D5
      clear hu hlen
      go_wp2_with (fail)
      go_quiet (fail)
      go_wp2_with (fail)
      refine (hU.out _).mono ?_
      rintro e w6 ⟨rfl, hw6⟩
      have r6 := Lib.hid ((r0.out.draws kk).draws nq)
      have hB6 := Lib.hid (below_drawn (below_drawn hBx.out kk) nq)
      rw [← hwr.out, ← hw6] at r6 hB6
      have e0 := r6.out.cell 0
      have e1 := r6.out.cell 1
      have e2 := r6.out.cell 2
      have e3 := r6.out.cell 3
      have e4 := r6.out.cell 4
      have e5 := r6.out.cell 5
      simp [wdC, wd0] at e0 e1 e2 e3 e4 e5
      have f0 := r6.out.free 0
      have f1 := r6.out.free 1
      have f2 := r6.out.free 2
      have f3 := r6.out.free 3
      have f4 := r6.out.free 4
      have f5 := r6.out.free 5
      clear hw6 c0 c1 hrun
      go_wp2_with (fail)
      clear e0 e1 e2 e3 e4 e5 f0 f1 f2 f3 f4 f5
      have r0 := r6
      have hBx := hB6
      have hZ0 : ∃ Z, set6 w6 g (⟨⟨R.toArray⟩, a, uz, t6, t5, t7⟩ : Wd) = Z := ⟨_, rfl⟩
      obtain ⟨Z, hZ⟩ := hZ0
      have rZ : Bk Z g 34 (wdC (⟨⟨R.toArray⟩, a, uz, t6, t5, t7⟩ : Wd)).toArray := by rw [← hZ]; exact set6_bk r0.out
      have hBZ : Below g w Z := by rw [← hZ]; exact set6_below hBx.out (Nat.le_refl _)
      unfold set6 at hZ
      first | rw [hZ] | (simp only [wd0, Int.ofNat_zero, Int.natCast_zero] at hZ; rw [hZ])
      clear hZ
      have e0 := rZ.cell 0
      have e1 := rZ.cell 1
      have e2 := rZ.cell 2
      have e3 := rZ.cell 3
      have e4 := rZ.cell 4
      have e5 := rZ.cell 5
      simp [wdC, wd0] at e0 e1 e2 e3 e4 e5
      replace rZ := Lib.hid rZ
      replace hBZ := Lib.hid hBZ
      refine bodyPost_ret (by simp [results, Try.results56, go_sem, *]; rfl) rfl ?_
      first | exact ⟨by rw [hXe.out, hv.out]; rfl, by first | exact hBZ.out | (rw [hg]; exact hBZ.out)⟩
/-- head: what the plain law says -/
theorem rhead_any (D : Rd w q m g₀ n B cl h l) (at_ : Int) (hat : at_ ≤ 9223372036854775807) : Calls Try.prog 56 #[.pointer (some ⟨q, 0, none⟩), .int .i64 at_] w fun e w' => (match headP B (g₀ + 8) (g₀ + n) at_ with | none => e = .returned (.tuple #[wdV wd0, .int .i64 0, .bool false]) | some (x, nx) => e = .returned (.tuple #[wdV x, .int .i64 nx, .bool true])) ∧ Below w.heap.size w w' := by
  unfold headP
  by_cases h8 : at_ % 8 = 0
  · by_cases hf : ((g₀ + 8 : Nat) : Int) ≤ at_
    · obtain ⟨a, rfl⟩ : ∃ a : Nat, at_ = a := ⟨at_.toNat, by omega⟩
      by_cases hy : (a : Int) + 16 ≤ (g₀ + n : Nat)
      · rw [if_pos ⟨h8, hf, hy⟩]
        simp only [Int.toNat_natCast]
        by_cases hm : (B.getD (a + 8) 0).toNat % 32 ≠ 0 ∧ upN (a + 9 + (B.getD (a + 8) 0).toNat % 32) ≤ g₀ + n
        · rw [if_pos hm]
          exact rhead_in_yes D a h8 (by omega) (by omega) hm.1 hm.2
        · rw [if_neg hm]
          exact rhead_in_no D a h8 (by omega) (by omega) (by omega)
      · rw [if_neg (fun h => hy h.2.2)]
        exact rhead_hi D a hat h8 (by omega) (by omega)
    · rw [if_neg (fun h => hf h.2.1)]
      exact rhead_lo D at_ h8 (by omega)
  · rw [if_neg (fun h => h8 h.1)]
    exact rhead_al D at_ h8
end
end Go.Proofs.Ytoaiiimnfgbcaaa
