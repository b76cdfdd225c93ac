import Derived.Test.YtpbloennjcjgoaaDoorResP
import Derived.StillTailTactics
namespace Go.Proofs.YtpbloennjcjgoaaDoor
open Go.RowKit
set_option linter.unusedVariables false
set_option linter.unusedSimpArgs false
theorem wrap_small (x : Nat) (h : x < 9223372036854775808) : IntKind.i64.wrap (x : Int) = (x : Int) := by
  simp [IntKind.wrap, IntKind.bits, IntKind.signed]
  omega
set_option maxHeartbeats 4000000 in
set_option maxRecDepth 100000 in
theorem rparse_yes (s : ByteArray) (w : World) (hs : s.size ≤ 9223372036854775807) (h52 : 52 ≤ s.size) (hmk : s.data.toList.take 4 = mark4) (hrc : ((rdN s 4 ≤ 65536 ∧ rdN s 12 ≤ 4096 ∧ rdN s 20 ≤ 4096) ∧ s.size = 52 + rdN s 4 + rdN s 12 + rdN s 20 ∧ sumL (s.data.toList.take (s.size - 8)) = rdN s (s.size - 8))) :
    Calls Tryd.prog 14 #[.string s] w fun e w' => e = .returned (.tuple #[parsedV s, .bool true]) ∧ Below w.heap.size w w' := by
  replace hrc := Lib.hid hrc
  have i52 : ¬ (s.size : Int) < 52 := by omega
  have hq : ((s.extract 0 4).toList == [80, 82, 83, 49]) = true := by
    rw [four_is s (by omega), ByteArray.toList_eq, hmk]
    simp [mark4]
  replace hmk := Lib.hid hmk
  have lx := rdN_lt2 s 4
  have ly := rdN_lt2 s 12
  have lz := rdN_lt2 s 20
  obtain ⟨⟨c1, c2, c3⟩, hsz, hsum⟩ := hrc.out
  have i1 : ¬ 65536 < (rdN s 4 : Int) := by omega
  have i2 : ¬ 4096 < (rdN s 12 : Int) := by omega
  have i3 : ¬ 4096 < (rdN s 20 : Int) := by omega
  obtain ⟨en, hen, hen2⟩ : ∃ en : Nat, (s.size : Int) - 8 = (en : Int) ∧ en + 8 = s.size := ⟨s.size - 8, by omega, by omega⟩
  have hsz2 : ((s.size : Int) != 52 + rdN s 4 + rdN s 12 + rdN s 20) = false := by simp; omega
  have n0 : (0 : Int) ≤ en := by omega
  have n1 : (en : Int) ≤ s.size := by omega
  have hcut : (s.extract 0 en).data.toList = s.data.toList.take en := by simp [ByteArray.data_extract]
  have hcz : (s.extract 0 en).size = en := by rw [ByteArray.size_extract]; omega
  have hsm : sumL (s.data.toList.take (s.size - 8)) = sumL (s.data.toList.take en) := by rw [show s.size - 8 = en by omega]
  have hrr : rdN s (s.size - 8) = rdN s en := by rw [show s.size - 8 = en by omega]
  rw [hsm, hrr] at hsum
  replace hsz := Lib.hid hsz
  replace hcut := Lib.hid hcut
  obtain ⟨sc, hsc⟩ : ∃ sc, s.extract 0 en = sc := ⟨_, rfl⟩
  rw [hsc] at hcz
  replace hcz := Lib.hid hcz
  clear hsm hrr
  replace hsum := Lib.hid hsum
  have x0 : (0 : Int) ≤ rdN s 4 := by omega
  have y0 : (0 : Int) ≤ rdN s 12 := by omega
  have z0 : (0 : Int) ≤ rdN s 20 := by omega
  obtain ⟨a, ha, ha2⟩ : ∃ a : Nat, 44 + (rdN s 4 : Int) = (a : Int) ∧ 44 + rdN s 4 = a := ⟨44 + rdN s 4, by omega, rfl⟩
  obtain ⟨b, hb, hb2⟩ : ∃ b : Nat, (a : Int) + rdN s 12 = (b : Int) ∧ a + rdN s 12 = b := ⟨a + rdN s 12, by omega, rfl⟩
  obtain ⟨c, hc, hc2⟩ : ∃ c : Nat, (b : Int) + rdN s 20 = (c : Int) ∧ b + rdN s 20 = c := ⟨b + rdN s 20, by omega, rfl⟩
  have a1 : (44 : Int) ≤ a := by omega
  have a2 : (a : Int) ≤ s.size := by have := hsz.out; omega
  have a3 : (a : Int) ≤ b := by omega
  have a4 : (b : Int) ≤ s.size := by have := hsz.out; omega
  have a5 : (b : Int) ≤ c := by omega
  have a6 : (c : Int) ≤ s.size := by have := hsz.out; omega
  have a7 : (0 : Int) ≤ a := by omega
  have a8 : (0 : Int) ≤ b := by omega
  have hpv : Hid (parsedV s = stateV (s.extract 44 a) (s.extract a b) (s.extract b c) (wrap64 (rdN s 28)) (wrap64 (rdN s 36))) := by
    show parsedV s = _
    unfold parsedV
    rw [ha2, hb2, hc2]
  replace ha2 := Lib.hid ha2
  replace hb2 := Lib.hid hb2
  replace hc2 := Lib.hid hc2
  go_enter Tryd.func14, Tryd.ntmps14
  go_wp2_with (fail)
  refine (rd_at s 4 _ (by omega) hs).mono ?_
  rintro e w4 ⟨rfl, rfl⟩
  go_wp2_with (fail)
  refine (rd_at s 12 _ (by omega) hs).mono ?_
  rintro e w12 ⟨rfl, rfl⟩
  go_wp2_with (fail)
  refine (rd_at s 20 _ (by omega) hs).mono ?_
  rintro e w20 ⟨rfl, rfl⟩
  go_wp2_with (fail)
  refine (rsum_any sc _ (by have := hcz.out; have := hsz.out; omega)).mono ?_
  rintro e w5 ⟨rfl, rfl⟩
  rw [← hsc, hcut.out, hsum.out]
  go_wp2_with (fail)
  refine (rd_at s en _ (by omega) hs).mono ?_
  rintro e w6 ⟨rfl, rfl⟩
  go_wp2_with (fail)
  have hK := Bk.fresh w 30 #[.string ⟨#[]⟩, .string ⟨#[]⟩, .string ⟨#[]⟩, .int .i64 0, .int .i64 0]
  have hBe := (Below.refl w.heap.size w).alloc (Nat.le_refl _) (.cells #[.string ⟨#[]⟩, .string ⟨#[]⟩, .string ⟨#[]⟩, .int .i64 0, .int .i64 0] 30)
  obtain ⟨V, hV⟩ : ∃ V, w.alloc (.cells #[.string ⟨#[]⟩, .string ⟨#[]⟩, .string ⟨#[]⟩, .int .i64 0, .int .i64 0] 30) = V := ⟨_, rfl⟩
  rw [hV] at hK hBe ⊢
  clear hV
  obtain ⟨p2, hp2⟩ : ∃ p2, w.heap.size = p2 := ⟨_, rfl⟩
  rw [hp2] at hK hBe ⊢
  replace hp2 := Lib.hid hp2
  have q0 : V.cell? ⟨p2, 0, none⟩ = some (.string ⟨#[]⟩) := hK.cell 0
  have q1 : V.cell? ⟨p2, 1, none⟩ = some (.string ⟨#[]⟩) := hK.cell 1
  have q2 : V.cell? ⟨p2, 2, none⟩ = some (.string ⟨#[]⟩) := hK.cell 2
  have q3 : V.cell? ⟨p2, 3, none⟩ = some (.int .i64 0) := hK.cell 3
  have q4 : V.cell? ⟨p2, 4, none⟩ = some (.int .i64 0) := hK.cell 4
  have f0 := hK.free 0
  have f1 := hK.free 1
  have f2 := hK.free 2
  have f3 := hK.free 3
  have f4 := hK.free 4
  replace hK := Lib.hid hK
  replace hBe := Lib.hid hBe
  have hv2 : IntKind.i64.wrap (rdN s 20 : Int) = (rdN s 20 : Int) := wrap_small (rdN s 20) (by omega)
  have hv6 : IntKind.i64.wrap (c : Int) = (c : Int) := wrap_small c (by omega)
  have nb : b ≤ c := by omega
  have nc : c ≤ s.size := by omega
  go_still_tail 21, (by kernel_rfl)
  still_call (rd_at s 28 _ (by omega) hs)
  repeat still_step
  still_call (rd_at s 36 _ (by omega) hs)
  repeat still_step
  refine wpStill_nil ?_
  change wpList _ _ _ _ _ V.drew
  have hK6 : Bk V.drew p2 30 #[.string ⟨#[]⟩, .string ⟨#[]⟩, .string ⟨#[]⟩, .int .i64 0, .int .i64 0] := hK.out
  have hB6 : Below p2 w V.drew := hBe.out.trans ⟨rfl, rfl, rfl, Nat.le_refl _, fun _ _ => rfl⟩
  clear q0 q1 q2 q3 q4 f0 f1 f2 f3 f4 hK hBe
  generalize V.drew = V6 at *
  have q0 : V6.cell? ⟨p2, 0, none⟩ = some (.string ⟨#[]⟩) := hK6.cell 0
  have q1 : V6.cell? ⟨p2, 1, none⟩ = some (.string ⟨#[]⟩) := hK6.cell 1
  have q2 : V6.cell? ⟨p2, 2, none⟩ = some (.string ⟨#[]⟩) := hK6.cell 2
  have q3 : V6.cell? ⟨p2, 3, none⟩ = some (.int .i64 0) := hK6.cell 3
  have q4 : V6.cell? ⟨p2, 4, none⟩ = some (.int .i64 0) := hK6.cell 4
  have f0 := hK6.free 0
  have f1 := hK6.free 1
  have f2 := hK6.free 2
  have f3 := hK6.free 3
  have f4 := hK6.free 4
  replace hK6 := Lib.hid hK6
  replace hB6 := Lib.hid hB6
  go_wp2_with (fail)
  have hK3 := (((((hK6.out.put 0 (.string (s.extract 44 a))).put 1 (.string (s.extract a b))).put 2 (.string (s.extract b c))).put 3 (.int .i64 (wrap64 (rdN s 28)))).put 4 (.int .i64 (wrap64 (rdN s 36))))
  have hB3 := (((((hB6.out.setCell (p := ⟨p2, 0, none⟩) (Nat.le_refl _) (.string (s.extract 44 a))).setCell (p := ⟨p2, 1, none⟩) (Nat.le_refl _) (.string (s.extract a b))).setCell (p := ⟨p2, 2, none⟩) (Nat.le_refl _) (.string (s.extract b c))).setCell (p := ⟨p2, 3, none⟩) (Nat.le_refl _) (.int .i64 (wrap64 (rdN s 28)))).setCell (p := ⟨p2, 4, none⟩) (Nat.le_refl _) (.int .i64 (wrap64 (rdN s 36))))
  obtain ⟨w9, hw9⟩ : ∃ w9, (((((V6.setCell ⟨p2, 0, none⟩ (.string (s.extract 44 a))).setCell ⟨p2, 1, none⟩ (.string (s.extract a b))).setCell ⟨p2, 2, none⟩ (.string (s.extract b c))).setCell ⟨p2, 3, none⟩ (.int .i64 (wrap64 (rdN s 28)))).setCell ⟨p2, 4, none⟩ (.int .i64 (wrap64 (rdN s 36)))) = w9 := ⟨_, rfl⟩
  rw [hw9] at hK3 hB3 ⊢
  have r0 : w9.cell? ⟨p2, 0, none⟩ = some (.string (s.extract 44 a)) := hK3.cell 0
  have r1 : w9.cell? ⟨p2, 1, none⟩ = some (.string (s.extract a b)) := hK3.cell 1
  have r2 : w9.cell? ⟨p2, 2, none⟩ = some (.string (s.extract b c)) := hK3.cell 2
  have r3 : w9.cell? ⟨p2, 3, none⟩ = some (.int .i64 (wrap64 (rdN s 28))) := hK3.cell 3
  have r4 : w9.cell? ⟨p2, 4, none⟩ = some (.int .i64 (wrap64 (rdN s 36))) := hK3.cell 4
  refine bodyPost_ret (by simp [results, Tryd.results14, go_sem, r0, r1, r2, r3, r4]; rfl) rfl ?_
  exact ⟨by rw [hpv.out]; rfl, by rw [hp2.out]; exact hB3⟩
end Go.Proofs.YtpbloennjcjgoaaDoor
