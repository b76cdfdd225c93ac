import Derived.Test.YtoaiiimnfgbcaaaRdU
namespace Go.Proofs.Ytoaiiimnfgbcaaa
open Go.RowKit
attribute [local go_sem] Oper.semAt_some
set_option linter.unusedVariables false
set_option linter.unusedSimpArgs false
/-! chapter 8: the walk of DictPlays -/
theorem At.conv {w : World} {v p b kk : Nat} {L : Lay} {a : Ls} {s : Bool} {B : List UInt8} {W : World} (h : At w v p b kk L a s B W) : (convert 65 9 (.slice (some ⟨a.m, 0, none⟩) a.n a.n)).run Try.prog W = .ok (.string ⟨(win a.g a.n B).toArray⟩) W := by
  have hl := win_len (g := a.g) (n := a.n) h.ra.len
  refine conv_u8 W (some ⟨a.m, 0, none⟩) a.m 0 a.n a.n (win a.g a.n B) hl (fun _ => rfl) (fun j hj => ?_)
  have := h.ra.by_.cell (0 + j)
  rw [this]
  simp [u8s, List.getElem?_eq_getElem hj]
set_option maxHeartbeats 8000000 in
set_option maxRecDepth 100000 in
theorem walk_dplays (sz : Int) (A : Option Addr) (n c : Nat) (w : World) (hsz : -9223372036854775808 ≤ sz ∧ sz ≤ 9223372036854775807) (hS : Ops8 w A n) :
    Calls Try.prog 6 #[.int .i64 sz, .slice A n c] w fun e w' => e = .returned (.bool true) ∧ Below w.heap.size w w' := by
  have hn := hS.1
  have q1 : (n : Int) ≤ 140737488351232 := by omega
  have hlay := fun w1 => layout8_any sz w1 hsz
  have hbeg := fun w1 => begun_any sz w1
  obtain ⟨L, hL⟩ : ∃ L, layOf8 sz = L := ⟨_, rfl⟩
  simp only [hL] at hlay hbeg
  clear hL hsz
  unfold LV layV at hlay hbeg
  replace hS := Lib.hid hS
  replace hlay := Lib.hid hlay
  replace hbeg := Lib.hid hbeg
  go_enter Try.func6, Try.ntmps6
  go_wp2_with (fail)
  refine (shown_any w).mono ?_
  rintro e w0 ⟨rfl, hb0⟩
  go_wp2_with (fail)
  refine (hlay.out w0).mono ?_
  rintro e w1 ⟨rfl, hb1⟩
  replace hb1 := hb0.trans (hb1.mono hb0.size)
  clear hb0 hlay
  replace hb1 := Lib.hid hb1
  go_wp2_with (fail)
  refine (hbeg.out w1).mono ?_
  rintro e w2 ⟨v, p, b, K, T, rfl, r1, r3, g0, n0, g1, n1, H, S⟩
  have R : Rl w1 v p b L K T w2 := ⟨_, _, K.h, K.l, T.h, T.l, H, S⟩
  have hr : K.r = 1 ∧ T.r = 3 := ⟨r1, r3⟩
  have hg : K.g = 0 ∧ K.n = L.k ∧ T.g = L.k + L.s ∧ T.n = L.u := ⟨g0, n0, g1, n1⟩
  clear r1 r3 g0 n0 g1 n1 H S hbeg
  replace R := Lib.hid R
  replace hr := Lib.hid hr
  replace hg := Lib.hid hg
  go_wp2_with (fail)
  go_loopw [7] (fun x7 wr => ∃ i : Nat, x7 = .int .i64 i ∧ i ≤ n ∧ i ≤ 120 ∧ Hid (Rl w1 v p b L K T wr)) (fun x7 _ => 120 - (intOf x7).toNat)
  case atStart => exact ⟨0, rfl, Nat.zero_le _, Nat.zero_le _, R⟩
  case round =>
    obtain ⟨i, rfl, hi, hi2, hR⟩ := hrel
    clear R
    have R := hR
    clear hR
    have i0 : (0 : Int) ≤ i := by omega
    by_cases hin : i < n ∧ i < 120
    · obtain ⟨hin, hi3⟩ := hin
      have j1 : (i : Int) < n := by omega
      have j2 : (i : Int) < 120 := by omega
      obtain ⟨ob, oo, v0, v1, v2, v3, v4, rfl, hob, o0, o1, o2, o3, o4, i0', i1', i2', i4'⟩ := hS.out.2 i hin
      have hBw := hb1.out.trans (R.out.so.below.mono hb1.out.size)
      have ow := Lib.hid o0
      have o0 := (hBw.cell (p := ⟨ob, oo + i * 5, none⟩) hob).trans o0
      have o1 := (hBw.cell (p := ⟨ob, oo + i * 5 + 1, none⟩) hob).trans o1
      have o2 := (hBw.cell (p := ⟨ob, oo + i * 5 + 2, none⟩) hob).trans o2
      have o3 := (hBw.cell (p := ⟨ob, oo + i * 5 + 3, none⟩) hob).trans o3
      have o4 := (hBw.cell (p := ⟨ob, oo + i * 5 + 4, none⟩) hob).trans o4
      have hD := Lib.hid (does_any R.out hr.out v0 v1 v2 v3 v4 i0' i1' i2' (Nat.le_trans i4' (by decide)))
      have hpk := Lib.hid (fun w => pick_any v0 2 w i0'.1 i0'.2 (by decide) (by decide))
      replace hob := Lib.hid hob
      clear i0' i1' i2' i4' hBw hin hi3
      go_wp2_with (fail)
      refine hD.out.mono ?_
      rintro e w3 ⟨rfl, R3⟩
      clear hD o0 o1 o2 o3 o4
      replace R3 := Lib.hid R3
      go_wp2_with (fail)
      go_loopw [9] (fun x9 wi => ∃ (k z : Nat), x9 = .int .i64 k ∧ k ≤ 2 ∧ wi = w3.drewN z) (fun x9 _ => 2 - (intOf x9).toNat)
      case atStart => exact ⟨0, 0, rfl, Nat.zero_le _, rfl⟩
      case round =>
        obtain ⟨k, z, rfl, hk, hz⟩ := hrel
        have k0 : (0 : Int) ≤ k := by omega
        have R4 := R3.out.bel (below_drawn (Below.refl _ _) z)
        rw [← hz] at R4
        have HZ : Hid (∃ z, wr = w3.drewN z) := ⟨z, hz⟩
        clear hz
        by_cases hk2 : k < 2
        · have k2 : (k : Int) < 2 := by omega
          obtain ⟨a, s, B, hA⟩ := R4.is hr.out hg.out hk2
          have hM := Lib.hid (mark_any hA.da)
          have c1 := hA.c1
          clear R4
          replace hA := Lib.hid hA
          go_wp2_with (fail)
          refine hM.out.mono ?_
          rintro e w4 ⟨rfl, z4, hz4⟩
          have hA4 := hA.out.bel (below_drawn (Below.refl _ _) z4)
          rw [← hz4] at hA4
          have HZ4 : Hid (∃ z, w4 = w3.drewN z) := by
            obtain ⟨z, hz⟩ := HZ.out
            exact Lib.hid ⟨z + z4, by rw [hz4, hz, World.drewN_drewN]⟩
          clear hz4 hM c1 hA HZ
          have c1 := hA4.c1
          have c3 := hA4.c3
          have q3 := hA4.ra.c3
          have q4 := hA4.ra.c4
          have hH := Lib.hid (here_any hA4.da)
          have hLt := Lib.hid (latest_any hA4.da)
          replace hA4 := Lib.hid hA4
          go_wp2_with (fail)
          refine hH.out.mono ?_
          rintro e w5 ⟨rfl, hw5⟩
          have hw5 := hw5.symm
          subst hw5
          go_wp2_with (fail)
          refine hLt.out.mono ?_
          rintro e w5 ⟨rfl, hw5⟩
          have hw5 := hw5.symm
          subst hw5
          go_wp2_with (fail)
          obtain ⟨z, hz⟩ := HZ4.out
          exact ⟨⟨k + 1, z, rfl, by omega, hz⟩, by simp [intOf]; omega⟩
        · obtain rfl : k = 2 := by omega
          clear hk2 k0 HZ
          have hkk := pickN_lt v0 2 (by decide)
          obtain ⟨kk, hkv⟩ : ∃ kk, pickN v0 2 = kk := ⟨_, rfl⟩
          simp only [show (2 : Int).toNat = 2 from rfl, hkv] at hpk
          rw [hkv] at hkk
          clear hkv
          have hBw := hb1.out.trans (R4.so.below.mono hb1.out.size)
          have o0 := (hBw.cell (p := ⟨ob, oo + i * 5, none⟩) hob.out).trans ow.out
          obtain ⟨a, s, B, hA⟩ := R4.is hr.out hg.out hkk
          have HA1 : At w1 v p b kk L a s B wr.drew := hA.bel (below_drawn (Below.refl _ _) 1)
          obtain ⟨X, hX⟩ : ∃ X, walkP B (a.g + 8) (a.g + a.n) a.l = X := ⟨_, rfl⟩
          have hAll := rall_any HA1.ra
          rw [hX] at hAll
          have c1 := hA.c1
          have c3 := hA.c3
          have m0 : (0 : Int) ≤ kk := by omega
          have m1 : (kk : Int) < 2 := by omega
          replace hAll := Lib.hid hAll
          replace HA1 := Lib.hid HA1
          replace R4 := Lib.hid R4
          replace hX := Lib.hid hX
          replace hkk := Lib.hid hkk
          replace hBw := Lib.hid hBw
          clear hA R3
          go_wp2_with (fail)
          refine (hpk.out _).mono ?_
          rintro e w5 ⟨rfl, hw5⟩
          have hw5 := hw5.symm
          subst hw5
          go_wp2_with (fail)
          go_region_held3 (fun w' => w'.cell? ⟨v, 1 + kk, none⟩ = some (.pointer (some ⟨a.d, 0, none⟩)) ∧ w'.cell? ⟨v, 3 + kk, none⟩ = some (.pointer (some ⟨a.q, 0, none⟩))) (first | (simp [go_sem, *]; done) | go_keep)
            (first
              | (go_at_call 24; (with_reducible refine Calls.mono hAll.out ?_); rintro e w6 ⟨A6, c6, rfl, hrow, hb6⟩; have HA6 := HA1.out.bel hb6; have kS : w6.cell? ⟨v, 1 + kk, none⟩ = some (.pointer (some ⟨a.d, 0, none⟩)) ∧ w6.cell? ⟨v, 3 + kk, none⟩ = some (.pointer (some ⟨a.q, 0, none⟩)) := ⟨HA6.c1, HA6.c3⟩; have hWd := Lib.hid (words_any HA6.da X hX.out A6 c6 _ hrow); replace HA6 := Lib.hid HA6; replace hb6 := Lib.hid hb6; clear hrow)
              | (go_at_call 23; (with_reducible refine Calls.mono hWd.out ?_); rintro e w7 ⟨rfl, hb7⟩; have HA7 := HA6.out.bel hb7; have kS : w7.cell? ⟨v, 1 + kk, none⟩ = some (.pointer (some ⟨a.d, 0, none⟩)) ∧ w7.cell? ⟨v, 3 + kk, none⟩ = some (.pointer (some ⟨a.q, 0, none⟩)) := ⟨HA7.c1, HA7.c3⟩; replace HA7 := Lib.hid HA7; replace hb7 := Lib.hid hb7))
          have hbt : Below wr.heap.size wr w7 := ((Below.refl wr.heap.size wr).drew.trans (hb6.out.mono (Nat.le_refl _))).trans (hb7.out.mono (Nat.le_trans (show wr.heap.size ≤ wr.drew.heap.size from Nat.le_refl _) hb6.out.size))
          have R7 := R4.out.bel hbt
          obtain ⟨S8, hS8⟩ : ∃ S8, (⟨(win a.g a.n B).toArray⟩ : ByteArray) = S8 := ⟨_, rfl⟩
          have hP := fun t => Part_any (HA7.out.bel (below_drawn (Below.refl _ _) t)).da.im (((1 + 2 * kk : Nat) : Int))
          have hcv := fun t => (HA7.out.bel (below_drawn (Below.refl _ _) t)).conv
          rw [HA7.out.pp] at hP
          simp only [hS8] at hP hcv
          rw [show ((1 + 2 * kk : Nat) : Int) = 1 + 2 * (kk : Int) by omega] at hP
          have eM1 : IntKind.i64.wrap (2 * (kk : Int)) = 2 * (kk : Int) := by have := hkk.out; rw [IntKind.wrap_i64]; omega
          have eM2 : IntKind.i64.wrap (1 + 2 * (kk : Int)) = 1 + 2 * (kk : Int) := by have := hkk.out; rw [IntKind.wrap_i64]; omega
          have c0 := HA7.out.c0
          have c1 := HA7.out.c1
          have c3 := HA7.out.c3
          have q0 := HA7.out.ra.c0
          replace hP := Lib.hid hP
          replace R7 := Lib.hid R7
          clear hbt hS8 HA1 HA6 HA7 hb6 hb7 hAll hWd R4 hX kS
          go_upto_region 19 with (fail)
          go_quiet ((go_at_call 25; with_reducible exact Calls.quiet_of (hP.out _)))
          go_wp2_with (fail)
          exact ⟨⟨i + 1, rfl, by omega, by omega, Lib.hid (R7.out.bel (below_drawn (Below.refl _ _) nq))⟩, by simp [intOf]; omega⟩
    · have hBw := Lib.hid (hb1.out.trans (R.out.so.below.mono hb1.out.size))
      obtain ⟨a, s, B, hA⟩ := R.out.is (kk := 0) hr.out hg.out (by decide)
      obtain ⟨a', s', B', hA'⟩ := R.out.is (kk := 1) hr.out hg.out (by decide)
      obtain ⟨S8, hS8⟩ : ∃ S8, (⟨(win a.g a.n B).toArray⟩ : ByteArray) = S8 := ⟨_, rfl⟩
      obtain ⟨S9, hS9⟩ : ∃ S9, (⟨(win a'.g a'.n B').toArray⟩ : ByteArray) = S9 := ⟨_, rfl⟩
      have hP := fun t => Part_any (hA.bel (below_drawn (Below.refl _ _) t)).da.im 1
      have hP' := fun t => Part_any (hA'.bel (below_drawn (Below.refl _ _) t)).da.im 3
      have e1 := hA.pp
      have e3 := hA'.pp
      simp only [Nat.mul_zero, Nat.add_zero, Nat.mul_one, Nat.reduceAdd] at e1 e3
      rw [show partL L B 1 = _ from e1] at hP
      rw [show partL L B' 3 = _ from e3] at hP'
      have hcv := fun t => (hA.bel (below_drawn (Below.refl _ _) t)).conv
      have hcv' := fun t => (hA'.bel (below_drawn (Below.refl _ _) t)).conv
      simp only [hS8] at hP hcv
      simp only [hS9] at hP' hcv'
      have c0 := hA.c0
      have c3 : wr.cell? ⟨v, 3, none⟩ = _ := hA.c3
      have c4 : wr.cell? ⟨v, 4, none⟩ = _ := hA'.c3
      have q0 := hA.ra.c0
      have q0' := hA'.ra.c0
      replace hP := Lib.hid hP
      replace hP' := Lib.hid hP'
      clear hA hA' e1 e3 hS8 hS9 R
      by_cases h1 : i < n
      · have j1 : (i : Int) < n := by omega
        have j2 : ¬ (i : Int) < 120 := by omega
        clear hin
        go_upto_region 21 with (fail)
        go_quiet ((go_at_call 25; first | with_reducible exact Calls.quiet_of (hP.out _) | with_reducible exact Calls.quiet_of (hP'.out _)))
        go_wp2_with (fail)
        go_returns
        exact ⟨rfl, below_drawn hBw.out _⟩
      · have j1 : ¬ (i : Int) < n := by omega
        clear hin
        go_upto_region 21 with (fail)
        go_quiet ((go_at_call 25; first | with_reducible exact Calls.quiet_of (hP.out _) | with_reducible exact Calls.quiet_of (hP'.out _)))
        go_wp2_with (fail)
        go_returns
        exact ⟨rfl, below_drawn hBw.out _⟩
end Go.Proofs.Ytoaiiimnfgbcaaa
