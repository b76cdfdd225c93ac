import Derived.Test.YtpbloennjcjgoaaDoorResE
import Derived.Test.YtpbloennjcjgoaaDoorResB
import Derived.Deep.RegionHeld3
namespace Go.Proofs.YtpbloennjcjgoaaDoor
open Go.RowKit
set_option linter.unusedVariables false
set_option linter.unusedSimpArgs false
theorem rd_at (s : ByteArray) (k : Nat) (w : World) (hk : k + 8 ≤ s.size) (hs : s.size ≤ 9223372036854775807) :
    Calls Tryd.prog 39 #[.string s, .int .i64 (k : Int)] w fun e w' => e = .returned (.int .u64 (rdN s k : Int)) ∧ w' = w :=
  read_any s k (fun j => s.data.toList.getD (k + j) 0) w (fun j h hj => by
    rw [List.getD_eq_getElem?_getD, List.getElem?_eq_getElem (by rw [data_size]; exact h)]; rfl) hk hs
theorem four_is (s : ByteArray) (h : 4 ≤ s.size) : s.extract 0 4 = ⟨(s.data.toList.take 4).toArray⟩ := by
  apply ByteArray.ext
  apply Array.ext'
  simp [ByteArray.data_extract]
theorem rdN_lt2 (s : ByteArray) (k : Nat) : rdN s k < 18446744073709551616 := horF_lt _ 8
set_option maxHeartbeats 4000000 in
set_option maxRecDepth 100000 in
theorem rparse_short (s : ByteArray) (w : World) (hs : s.size ≤ 9223372036854775807) (h52 : s.size < 52) :
    Calls Tryd.prog 14 #[.string s] w fun e w' => e = .returned (.tuple #[zeroV, .bool false]) ∧ Below w.heap.size w w' := by
  have i52 : (s.size : Int) < 52 := by omega
  go_enter Tryd.func14, Tryd.ntmps14
  go_wp2_with (fail)
  have hK := Bk.fresh w 30 #[.string ⟨#[]⟩, .string ⟨#[]⟩, .string ⟨#[]⟩, .int .i64 0, .int .i64 0]
  have hBe := (Below.refl w.heap.size w).alloc (Nat.le_refl _) (.cells #[.string ⟨#[]⟩, .string ⟨#[]⟩, .string ⟨#[]⟩, .int .i64 0, .int .i64 0] 30)
  obtain ⟨V, hV⟩ : ∃ V, w.alloc (.cells #[.string ⟨#[]⟩, .string ⟨#[]⟩, .string ⟨#[]⟩, .int .i64 0, .int .i64 0] 30) = V := ⟨_, rfl⟩
  rw [hV] at hK hBe ⊢
  have r0 : V.cell? ⟨w.heap.size, 0, none⟩ = some (.string ⟨#[]⟩) := hK.cell 0
  have r1 : V.cell? ⟨w.heap.size, 1, none⟩ = some (.string ⟨#[]⟩) := hK.cell 1
  have r2 : V.cell? ⟨w.heap.size, 2, none⟩ = some (.string ⟨#[]⟩) := hK.cell 2
  have r3 : V.cell? ⟨w.heap.size, 3, none⟩ = some (.int .i64 0) := hK.cell 3
  have r4 : V.cell? ⟨w.heap.size, 4, none⟩ = some (.int .i64 0) := hK.cell 4
  refine bodyPost_ret (by simp [results, Tryd.results14, go_sem, r0, r1, r2, r3, r4]; rfl) rfl ?_
  exact ⟨rfl, hBe⟩
set_option maxHeartbeats 4000000 in
set_option maxRecDepth 100000 in
theorem rparse_mark (s : ByteArray) (w : World) (hs : s.size ≤ 9223372036854775807) (h52 : 52 ≤ s.size) (hmk : ¬ s.data.toList.take 4 = mark4) :
    Calls Tryd.prog 14 #[.string s] w fun e w' => e = .returned (.tuple #[zeroV, .bool false]) ∧ Below w.heap.size w w' := by
  have i52 : ¬ (s.size : Int) < 52 := by omega
  have hq : ((s.extract 0 4).toList == [80, 82, 83, 49]) = false := by
    rw [four_is s (by omega), ByteArray.toList_eq]
    simpa [mark4] using hmk
  clear hmk
  go_enter Tryd.func14, Tryd.ntmps14
  go_wp2_with (fail)
  have hK := Bk.fresh w 30 #[.string ⟨#[]⟩, .string ⟨#[]⟩, .string ⟨#[]⟩, .int .i64 0, .int .i64 0]
  have hBe := (Below.refl w.heap.size w).alloc (Nat.le_refl _) (.cells #[.string ⟨#[]⟩, .string ⟨#[]⟩, .string ⟨#[]⟩, .int .i64 0, .int .i64 0] 30)
  obtain ⟨V, hV⟩ : ∃ V, w.alloc (.cells #[.string ⟨#[]⟩, .string ⟨#[]⟩, .string ⟨#[]⟩, .int .i64 0, .int .i64 0] 30) = V := ⟨_, rfl⟩
  rw [hV] at hK hBe ⊢
  have r0 : V.cell? ⟨w.heap.size, 0, none⟩ = some (.string ⟨#[]⟩) := hK.cell 0
  have r1 : V.cell? ⟨w.heap.size, 1, none⟩ = some (.string ⟨#[]⟩) := hK.cell 1
  have r2 : V.cell? ⟨w.heap.size, 2, none⟩ = some (.string ⟨#[]⟩) := hK.cell 2
  have r3 : V.cell? ⟨w.heap.size, 3, none⟩ = some (.int .i64 0) := hK.cell 3
  have r4 : V.cell? ⟨w.heap.size, 4, none⟩ = some (.int .i64 0) := hK.cell 4
  refine bodyPost_ret (by simp [results, Tryd.results14, go_sem, r0, r1, r2, r3, r4]; rfl) rfl ?_
  exact ⟨rfl, hBe⟩
set_option maxHeartbeats 4000000 in
set_option maxRecDepth 100000 in
theorem rparse_no (s : ByteArray) (w : World) (hs : s.size ≤ 9223372036854775807) (h52 : 52 ≤ s.size) (hmk : s.data.toList.take 4 = mark4) (hrc : ¬ ((rdN s 4 ≤ 65536 ∧ rdN s 12 ≤ 4096 ∧ rdN s 20 ≤ 4096) ∧ s.size = 52 + rdN s 4 + rdN s 12 + rdN s 20 ∧ sumL (s.data.toList.take (s.size - 8)) = rdN s (s.size - 8))) :
    Calls Tryd.prog 14 #[.string s] w fun e w' => e = .returned (.tuple #[zeroV, .bool false]) ∧ Below w.heap.size w w' := by
  have i52 : ¬ (s.size : Int) < 52 := by omega
  have hq : ((s.extract 0 4).toList == [80, 82, 83, 49]) = true := by
    rw [four_is s (by omega), ByteArray.toList_eq, hmk]
    simp [mark4]
  replace hmk := Lib.hid hmk
  have lx := rdN_lt2 s 4
  have ly := rdN_lt2 s 12
  have lz := rdN_lt2 s 20
  by_cases c1 : rdN s 4 ≤ 65536
  · have i1 : ¬ 65536 < (rdN s 4 : Int) := by omega
    by_cases c2 : rdN s 12 ≤ 4096
    · have i2 : ¬ 4096 < (rdN s 12 : Int) := by omega
      by_cases c3 : rdN s 20 ≤ 4096
      · have i3 : ¬ 4096 < (rdN s 20 : Int) := by omega
        by_cases hsz : s.size = 52 + rdN s 4 + rdN s 12 + rdN s 20
        · obtain ⟨en, hen, hen2⟩ : ∃ en : Nat, (s.size : Int) - 8 = (en : Int) ∧ en + 8 = s.size := ⟨s.size - 8, by omega, by omega⟩
          have hsz2 : ((s.size : Int) != 52 + rdN s 4 + rdN s 12 + rdN s 20) = false := by simp; omega
          have n0 : (0 : Int) ≤ en := by omega
          have n1 : (en : Int) ≤ s.size := by omega
          have hcut : (s.extract 0 en).data.toList = s.data.toList.take en := by simp [ByteArray.data_extract]
          have hcz : (s.extract 0 en).size = en := by rw [ByteArray.size_extract]; omega
          have hsm : sumL (s.data.toList.take (s.size - 8)) = sumL (s.data.toList.take en) := by rw [show s.size - 8 = en by omega]
          have hrr : rdN s (s.size - 8) = rdN s en := by rw [show s.size - 8 = en by omega]
          rw [hsm, hrr] at hrc
          replace hsz := Lib.hid hsz
          replace hcut := Lib.hid hcut
          obtain ⟨sc, hsc⟩ : ∃ sc, s.extract 0 en = sc := ⟨_, rfl⟩
          rw [hsc] at hcz
          replace hcz := Lib.hid hcz
          clear hsm hrr
          have hne : ¬ sumL (s.data.toList.take en) = rdN s en := fun g => hrc ⟨⟨c1, c2, c3⟩, hsz.out, g⟩
          clear hrc
          have hsn : ((sumL (s.data.toList.take en) : Int) != rdN s en) = true := by simp; omega
          obtain ⟨S, hS⟩ : ∃ S, sumL (s.data.toList.take en) = S := ⟨_, rfl⟩
          rw [hS] at hsn
          replace hS := Lib.hid hS
          replace hne := Lib.hid hne
          go_enter Tryd.func14, Tryd.ntmps14
          go_wp2_with (fail)
          refine (rd_at s 4 _ (by omega) hs).mono ?_
          rintro e w4 ⟨rfl, rfl⟩
          go_wp2_with (fail)
          refine (rd_at s 12 _ (by omega) hs).mono ?_
          rintro e w12 ⟨rfl, rfl⟩
          go_wp2_with (fail)
          refine (rd_at s 20 _ (by omega) hs).mono ?_
          rintro e w20 ⟨rfl, rfl⟩
          go_wp2_with (fail)
          refine (rsum_any sc _ (by have := hcz.out; have := hsz.out; omega)).mono ?_
          rintro e w5 ⟨rfl, rfl⟩
          rw [← hsc, hcut.out, hS.out]
          go_wp2_with (fail)
          refine (rd_at s en _ (by omega) hs).mono ?_
          rintro e w6 ⟨rfl, rfl⟩
          go_wp2_with (fail)
          have hK := Bk.fresh w 30 #[.string ⟨#[]⟩, .string ⟨#[]⟩, .string ⟨#[]⟩, .int .i64 0, .int .i64 0]
          have hBe := (Below.refl w.heap.size w).alloc (Nat.le_refl _) (.cells #[.string ⟨#[]⟩, .string ⟨#[]⟩, .string ⟨#[]⟩, .int .i64 0, .int .i64 0] 30)
          obtain ⟨V, hV⟩ : ∃ V, w.alloc (.cells #[.string ⟨#[]⟩, .string ⟨#[]⟩, .string ⟨#[]⟩, .int .i64 0, .int .i64 0] 30) = V := ⟨_, rfl⟩
          rw [hV] at hK hBe ⊢
          have r0 : V.cell? ⟨w.heap.size, 0, none⟩ = some (.string ⟨#[]⟩) := hK.cell 0
          have r1 : V.cell? ⟨w.heap.size, 1, none⟩ = some (.string ⟨#[]⟩) := hK.cell 1
          have r2 : V.cell? ⟨w.heap.size, 2, none⟩ = some (.string ⟨#[]⟩) := hK.cell 2
          have r3 : V.cell? ⟨w.heap.size, 3, none⟩ = some (.int .i64 0) := hK.cell 3
          have r4 : V.cell? ⟨w.heap.size, 4, none⟩ = some (.int .i64 0) := hK.cell 4
          refine bodyPost_ret (by simp [results, Tryd.results14, go_sem, r0, r1, r2, r3, r4]; rfl) rfl ?_
          exact ⟨rfl, hBe⟩
        · have hsz2 : ((s.size : Int) != 52 + rdN s 4 + rdN s 12 + rdN s 20) = true := by simp; omega
          clear hrc
          go_enter Tryd.func14, Tryd.ntmps14
          go_wp2_with (fail)
          refine (rd_at s 4 _ (by omega) hs).mono ?_
          rintro e w4 ⟨rfl, rfl⟩
          go_wp2_with (fail)
          refine (rd_at s 12 _ (by omega) hs).mono ?_
          rintro e w12 ⟨rfl, rfl⟩
          go_wp2_with (fail)
          refine (rd_at s 20 _ (by omega) hs).mono ?_
          rintro e w20 ⟨rfl, rfl⟩
          go_wp2_with (fail)
          have hK := Bk.fresh w 30 #[.string ⟨#[]⟩, .string ⟨#[]⟩, .string ⟨#[]⟩, .int .i64 0, .int .i64 0]
          have hBe := (Below.refl w.heap.size w).alloc (Nat.le_refl _) (.cells #[.string ⟨#[]⟩, .string ⟨#[]⟩, .string ⟨#[]⟩, .int .i64 0, .int .i64 0] 30)
          obtain ⟨V, hV⟩ : ∃ V, w.alloc (.cells #[.string ⟨#[]⟩, .string ⟨#[]⟩, .string ⟨#[]⟩, .int .i64 0, .int .i64 0] 30) = V := ⟨_, rfl⟩
          rw [hV] at hK hBe ⊢
          have r0 : V.cell? ⟨w.heap.size, 0, none⟩ = some (.string ⟨#[]⟩) := hK.cell 0
          have r1 : V.cell? ⟨w.heap.size, 1, none⟩ = some (.string ⟨#[]⟩) := hK.cell 1
          have r2 : V.cell? ⟨w.heap.size, 2, none⟩ = some (.string ⟨#[]⟩) := hK.cell 2
          have r3 : V.cell? ⟨w.heap.size, 3, none⟩ = some (.int .i64 0) := hK.cell 3
          have r4 : V.cell? ⟨w.heap.size, 4, none⟩ = some (.int .i64 0) := hK.cell 4
          refine bodyPost_ret (by simp [results, Tryd.results14, go_sem, r0, r1, r2, r3, r4]; rfl) rfl ?_
          exact ⟨rfl, hBe⟩
      · have i3 : 4096 < (rdN s 20 : Int) := by omega
        clear hrc
        go_enter Tryd.func14, Tryd.ntmps14
        go_wp2_with (fail)
        refine (rd_at s 4 _ (by omega) hs).mono ?_
        rintro e w4 ⟨rfl, rfl⟩
        go_wp2_with (fail)
        refine (rd_at s 12 _ (by omega) hs).mono ?_
        rintro e w12 ⟨rfl, rfl⟩
        go_wp2_with (fail)
        refine (rd_at s 20 _ (by omega) hs).mono ?_
        rintro e w20 ⟨rfl, rfl⟩
        go_wp2_with (fail)
        have hK := Bk.fresh w 30 #[.string ⟨#[]⟩, .string ⟨#[]⟩, .string ⟨#[]⟩, .int .i64 0, .int .i64 0]
        have hBe := (Below.refl w.heap.size w).alloc (Nat.le_refl _) (.cells #[.string ⟨#[]⟩, .string ⟨#[]⟩, .string ⟨#[]⟩, .int .i64 0, .int .i64 0] 30)
        obtain ⟨V, hV⟩ : ∃ V, w.alloc (.cells #[.string ⟨#[]⟩, .string ⟨#[]⟩, .string ⟨#[]⟩, .int .i64 0, .int .i64 0] 30) = V := ⟨_, rfl⟩
        rw [hV] at hK hBe ⊢
        have r0 : V.cell? ⟨w.heap.size, 0, none⟩ = some (.string ⟨#[]⟩) := hK.cell 0
        have r1 : V.cell? ⟨w.heap.size, 1, none⟩ = some (.string ⟨#[]⟩) := hK.cell 1
        have r2 : V.cell? ⟨w.heap.size, 2, none⟩ = some (.string ⟨#[]⟩) := hK.cell 2
        have r3 : V.cell? ⟨w.heap.size, 3, none⟩ = some (.int .i64 0) := hK.cell 3
        have r4 : V.cell? ⟨w.heap.size, 4, none⟩ = some (.int .i64 0) := hK.cell 4
        refine bodyPost_ret (by simp [results, Tryd.results14, go_sem, r0, r1, r2, r3, r4]; rfl) rfl ?_
        exact ⟨rfl, hBe⟩
    · have i2 : 4096 < (rdN s 12 : Int) := by omega
      clear hrc
      go_enter Tryd.func14, Tryd.ntmps14
      go_wp2_with (fail)
      refine (rd_at s 4 _ (by omega) hs).mono ?_
      rintro e w4 ⟨rfl, rfl⟩
      go_wp2_with (fail)
      refine (rd_at s 12 _ (by omega) hs).mono ?_
      rintro e w12 ⟨rfl, rfl⟩
      go_wp2_with (fail)
      refine (rd_at s 20 _ (by omega) hs).mono ?_
      rintro e w20 ⟨rfl, rfl⟩
      go_wp2_with (fail)
      have hK := Bk.fresh w 30 #[.string ⟨#[]⟩, .string ⟨#[]⟩, .string ⟨#[]⟩, .int .i64 0, .int .i64 0]
      have hBe := (Below.refl w.heap.size w).alloc (Nat.le_refl _) (.cells #[.string ⟨#[]⟩, .string ⟨#[]⟩, .string ⟨#[]⟩, .int .i64 0, .int .i64 0] 30)
      obtain ⟨V, hV⟩ : ∃ V, w.alloc (.cells #[.string ⟨#[]⟩, .string ⟨#[]⟩, .string ⟨#[]⟩, .int .i64 0, .int .i64 0] 30) = V := ⟨_, rfl⟩
      rw [hV] at hK hBe ⊢
      have r0 : V.cell? ⟨w.heap.size, 0, none⟩ = some (.string ⟨#[]⟩) := hK.cell 0
      have r1 : V.cell? ⟨w.heap.size, 1, none⟩ = some (.string ⟨#[]⟩) := hK.cell 1
      have r2 : V.cell? ⟨w.heap.size, 2, none⟩ = some (.string ⟨#[]⟩) := hK.cell 2
      have r3 : V.cell? ⟨w.heap.size, 3, none⟩ = some (.int .i64 0) := hK.cell 3
      have r4 : V.cell? ⟨w.heap.size, 4, none⟩ = some (.int .i64 0) := hK.cell 4
      refine bodyPost_ret (by simp [results, Tryd.results14, go_sem, r0, r1, r2, r3, r4]; rfl) rfl ?_
      exact ⟨rfl, hBe⟩
  · have i1 : 65536 < (rdN s 4 : Int) := by omega
    clear hrc
    go_enter Tryd.func14, Tryd.ntmps14
    go_wp2_with (fail)
    refine (rd_at s 4 _ (by omega) hs).mono ?_
    rintro e w4 ⟨rfl, rfl⟩
    go_wp2_with (fail)
    refine (rd_at s 12 _ (by omega) hs).mono ?_
    rintro e w12 ⟨rfl, rfl⟩
    go_wp2_with (fail)
    refine (rd_at s 20 _ (by omega) hs).mono ?_
    rintro e w20 ⟨rfl, rfl⟩
    go_wp2_with (fail)
    have hK := Bk.fresh w 30 #[.string ⟨#[]⟩, .string ⟨#[]⟩, .string ⟨#[]⟩, .int .i64 0, .int .i64 0]
    have hBe := (Below.refl w.heap.size w).alloc (Nat.le_refl _) (.cells #[.string ⟨#[]⟩, .string ⟨#[]⟩, .string ⟨#[]⟩, .int .i64 0, .int .i64 0] 30)
    obtain ⟨V, hV⟩ : ∃ V, w.alloc (.cells #[.string ⟨#[]⟩, .string ⟨#[]⟩, .string ⟨#[]⟩, .int .i64 0, .int .i64 0] 30) = V := ⟨_, rfl⟩
    rw [hV] at hK hBe ⊢
    have r0 : V.cell? ⟨w.heap.size, 0, none⟩ = some (.string ⟨#[]⟩) := hK.cell 0
    have r1 : V.cell? ⟨w.heap.size, 1, none⟩ = some (.string ⟨#[]⟩) := hK.cell 1
    have r2 : V.cell? ⟨w.heap.size, 2, none⟩ = some (.string ⟨#[]⟩) := hK.cell 2
    have r3 : V.cell? ⟨w.heap.size, 3, none⟩ = some (.int .i64 0) := hK.cell 3
    have r4 : V.cell? ⟨w.heap.size, 4, none⟩ = some (.int .i64 0) := hK.cell 4
    refine bodyPost_ret (by simp [results, Tryd.results14, go_sem, r0, r1, r2, r3, r4]; rfl) rfl ?_
    exact ⟨rfl, hBe⟩
end Go.Proofs.YtpbloennjcjgoaaDoor
