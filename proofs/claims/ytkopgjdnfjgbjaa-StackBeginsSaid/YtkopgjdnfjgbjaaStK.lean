import Derived.Test.YtkopgjdnfjgbjaaStI
import Derived.Test.YtkopgjdnfjgbjaaStJ
namespace Go.Proofs.Ytkopgjdnfjgbjaa
open Go.RowKit
set_option linter.unusedVariables false
set_option linter.unusedSimpArgs false
/-! StackBegins -/
set_option maxHeartbeats 4000000 in
theorem walk_begins (d r rg : Int) (w : World) (hd : inI d) (hr : inI r) (hg : inI rg) :
    Calls Try.prog 3 #[.int .i64 d, .int .i64 r, .int .i64 rg] w fun e w' => e = .returned (.bool true) ∧ Below w.heap.size w w' := by
  have hlay := fun w1 => layout4_any d r w1 hd hr
  have hN := fun w1 => new4 d r w1
  have hok := layOf4_ok d r
  obtain ⟨L, hL⟩ : ∃ L, layOf4 d r = L := ⟨_, rfl⟩
  rw [hL] at hok
  simp only [hL] at hlay hN
  replace hlay := Lib.hid hlay
  replace hN := Lib.hid hN
  replace hL := Lib.hid hL
  go_enter Try.func3, Try.ntmps3
  go_wp2_with (fail)
  refine (shown4 _).mono ?_
  rintro e w1 ⟨rfl, hb1⟩
  go_wp2_with (fail)
  refine (hlay.out _).mono ?_
  rintro e w2 ⟨rfl, hb2⟩
  unfold LV layV
  go_wp2_with (fail)
  obtain ⟨V, hV⟩ : ∃ V, w2.alloc (.cells #[.int .i64 L.k, .int .i64 L.s, .int .i64 L.u, .int .i64 L.d, .int .i64 L.r] 24) = V := ⟨_, rfl⟩
  have hbV : Below w2.heap.size w2 V := by rw [← hV]; exact (Below.refl _ _).alloc (Nat.le_refl _) _
  have hW : Bk V w2.heap.size 24 #[.int .i64 L.k, .int .i64 L.s, .int .i64 L.u, .int .i64 L.d, .int .i64 L.r] := by rw [← hV]; exact Bk.fresh w2 _ _
  obtain ⟨y, hy⟩ : ∃ y, w2.heap.size = y := ⟨_, rfl⟩
  rw [hV]
  rw [hy] at hW ⊢
  have hn := hN.out V
  unfold LV layV at hn
  refine hn.mono ?_
  rintro e w3 ⟨ip, b, rfl, hI, z1, z2, hb3⟩
  replace hW := hW.kept hb3 hW.lt
  have Hb3 : Below w.heap.size w w3 := by
    have a2 := hb1.trans (hb2.mono hb1.size)
    have a3 := a2.trans (hbV.mono a2.size)
    exact a3.trans (hb3.mono a3.size)
  obtain ⟨B, hB⟩ : ∃ B, List.replicate L.b6 (0 : UInt8) = B := ⟨_, rfl⟩
  rw [hB] at hI
  clear hb1 hb2 hb3 hbV hV hn hB hN
  replace hI := Lib.hid hI
  replace hW := Lib.hid hW
  go_wp2_with (fail)
  refine (Part_any hI.out 4).mono ?_
  rintro e w4 ⟨rfl, n4, hw4⟩
  replace hI := Lib.hid (by rw [hw4]; exact hI.out.draws n4 : Im w4 ip b L B false false)
  replace hW := Lib.hid (by rw [hw4]; exact hW.out.draws n4 : Bk w4 y _ _)
  have Hb4 : Below w.heap.size w w4 := by rw [hw4]; exact Hb3.trans ⟨rfl, rfl, rfl, Nat.le_refl _, fun _ _ => rfl⟩
  clear hw4
  have hs : ¬ (9223372036854775807 < (partL L B 4).length + (partL L B 5).length) := by
    have hl := hI.out.len
    have hm := (Lay.mono hok)
    have l : ∀ r, (partL L B r).length ≤ B.length := fun r => by unfold partL; rw [List.length_take, List.length_drop]; omega
    have := l 4
    have := l 5
    omega
  go_wp2_with (fail)
  refine (Part_any hI.out 5).mono ?_
  rintro e w5 ⟨rfl, n5, hw5⟩
  replace hI := Lib.hid (by rw [hw5]; exact hI.out.draws n5 : Im w5 ip b L B false false)
  replace hW := Lib.hid (by rw [hw5]; exact hW.out.draws n5 : Bk w5 y _ _)
  have Hb5 : Below w.heap.size w w5 := by rw [hw5]; exact Hb4.trans ⟨rfl, rfl, rfl, Nat.le_refl _, fun _ _ => rfl⟩
  clear hw5
  go_wp2_with (fail)
  by_cases h4 : rg = 4
  · subst h4
    refine (stnew_data hI.out).mono ?_
    rintro e w6 ⟨q, rfl, z6, hS, hb6⟩
    have Hb6 := Hb5.trans (hb6.mono Hb5.size)
    replace hI := Lib.hid (hI.out.bel hb6)
    replace hW := Lib.hid (hW.out.kept hb6 hW.out.lt)
    replace hS := Lib.hid hS
    go_wp2_with (fail)
    refine (rnew_data 8 (by decide) w6).mono ?_
    rintro e w7 ⟨rq, rg', rfl, z7, z8, _, hb7⟩
    have Hb7 := Hb6.trans (hb7.mono Hb6.size)
    replace hI := Lib.hid (hI.out.bel hb7)
    replace hW := Lib.hid (hW.out.kept hb7 hW.out.lt)
    replace hS := Lib.hid (hS.out.bel hb7)
    have y3 := hW.out.cell 3
    have y4 := hW.out.cell 4
    simp at y3 y4
    have hrm : ((L.d : Int)).tdiv 8 = (roomOf L 4 : Int) := by
      have e := (reg_lies hok 4 (by decide)).up
      have e2 : L.beg (4 + 1) = L.beg 4 + L.d := rfl
      have e3 : L.d = 8 * roomOf L 4 := by omega
      rw [e3, Int.natCast_mul]
      exact Int.mul_tdiv_cancel_left _ (by decide)
    have hrw : wrap64 (roomOf L 4 : Int) = (roomOf L 4 : Int) := by
      have e := ((reg_lies hok 4 (by decide)).even hok).2
      have e2 := ((reg_lies hok 4 (by decide)).even hok).1
      have e4 : roomOf L 4 ≤ 143360 := by omega
      clear hrm
      unfold wrap64; omega
    have hreg := reg_lies hok 4 (by decide)
    obtain ⟨room, hroom⟩ : ∃ room, roomOf L 4 = room := ⟨_, rfl⟩
    rw [hroom] at hrm hrw hreg
    have hS : Hid (Stk w7 q ip (L.beg 4) room 0 1 2) := by rw [← hroom]; exact hS
    clear hroom
    go_wp2_with (fail)
    refine (depth_any hS.out).mono ?_
    rintro e w8 ⟨rfl, hw8⟩
    have hw8 := hw8.symm
    subst hw8
    go_wp2_with (fail)
    refine (room_any hS.out).mono ?_
    rintro e w8 ⟨rfl, hw8⟩
    have hw8 := hw8.symm
    subst hw8
    go_wp2_with (fail)
    refine (cells_any hI.out hS.out hreg).mono ?_
    rintro e w9 ⟨g9, rfl, z9, hX9, hb9⟩
    have Hb9 := Hb7.trans (hb9.mono Hb7.size)
    replace hI := Lib.hid (hI.out.bel hb9)
    go_wp2_with (fail)
    refine (Part_any hI.out 4).mono ?_
    rintro e w10 ⟨rfl, n10, hw10⟩
    replace hI := Lib.hid (by rw [hw10]; exact hI.out.draws n10 : Im w10 ip b L B false false)
    have Hb10 : Below w.heap.size w w10 := by rw [hw10]; exact Hb9.trans ⟨rfl, rfl, rfl, Nat.le_refl _, fun _ _ => rfl⟩
    clear hw10
    go_wp2_with (fail)
    refine (Part_any hI.out 5).mono ?_
    rintro e w11 ⟨rfl, n11, hw11⟩
    have Hb11 : Below w.heap.size w w11 := by rw [hw11]; exact Hb10.trans ⟨rfl, rfl, rfl, Nat.le_refl _, fun _ _ => rfl⟩
    clear hw11
    go_wp2_with (fail)
    go_returns
    exact ⟨rfl, Hb11⟩
  · by_cases h5 : rg = 5
    · subst h5
      refine (stnew_ret hI.out).mono ?_
      rintro e w6 ⟨q, rfl, z6, hS, hb6⟩
      have Hb6 := Hb5.trans (hb6.mono Hb5.size)
      replace hI := Lib.hid (hI.out.bel hb6)
      replace hW := Lib.hid (hW.out.kept hb6 hW.out.lt)
      replace hS := Lib.hid hS
      go_wp2_with (fail)
      refine (rnew_ret 8 (by decide) w6).mono ?_
      rintro e w7 ⟨rq, rg', rfl, z7, z8, _, hb7⟩
      have Hb7 := Hb6.trans (hb7.mono Hb6.size)
      replace hI := Lib.hid (hI.out.bel hb7)
      replace hW := Lib.hid (hW.out.kept hb7 hW.out.lt)
      replace hS := Lib.hid (hS.out.bel hb7)
      have y3 := hW.out.cell 3
      have y4 := hW.out.cell 4
      simp at y3 y4
      have hrm : ((L.r : Int)).tdiv 8 = (roomOf L 5 : Int) := by
        have e := (reg_lies hok 5 (by decide)).up
        have e2 : L.beg (5 + 1) = L.beg 5 + L.r := rfl
        have e3 : L.r = 8 * roomOf L 5 := by omega
        rw [e3, Int.natCast_mul]
        exact Int.mul_tdiv_cancel_left _ (by decide)
      have hrw : wrap64 (roomOf L 5 : Int) = (roomOf L 5 : Int) := by
        have e := ((reg_lies hok 5 (by decide)).even hok).2
        have e2 := ((reg_lies hok 5 (by decide)).even hok).1
        have e4 : roomOf L 5 ≤ 143360 := by omega
        clear hrm
        unfold wrap64; omega
      have hreg := reg_lies hok 5 (by decide)
      obtain ⟨room, hroom⟩ : ∃ room, roomOf L 5 = room := ⟨_, rfl⟩
      rw [hroom] at hrm hrw hreg
      have hS : Hid (Stk w7 q ip (L.beg 5) room 0 3 4) := by rw [← hroom]; exact hS
      clear hroom
      go_wp2_with (fail)
      refine (depth_any hS.out).mono ?_
      rintro e w8 ⟨rfl, hw8⟩
      have hw8 := hw8.symm
      subst hw8
      go_wp2_with (fail)
      refine (room_any hS.out).mono ?_
      rintro e w8 ⟨rfl, hw8⟩
      have hw8 := hw8.symm
      subst hw8
      go_wp2_with (fail)
      refine (cells_any hI.out hS.out hreg).mono ?_
      rintro e w9 ⟨g9, rfl, z9, hX9, hb9⟩
      have Hb9 := Hb7.trans (hb9.mono Hb7.size)
      replace hI := Lib.hid (hI.out.bel hb9)
      go_wp2_with (fail)
      refine (Part_any hI.out 4).mono ?_
      rintro e w10 ⟨rfl, n10, hw10⟩
      replace hI := Lib.hid (by rw [hw10]; exact hI.out.draws n10 : Im w10 ip b L B false false)
      have Hb10 : Below w.heap.size w w10 := by rw [hw10]; exact Hb9.trans ⟨rfl, rfl, rfl, Nat.le_refl _, fun _ _ => rfl⟩
      clear hw10
      go_wp2_with (fail)
      refine (Part_any hI.out 5).mono ?_
      rintro e w11 ⟨rfl, n11, hw11⟩
      have Hb11 : Below w.heap.size w w11 := by rw [hw11]; exact Hb10.trans ⟨rfl, rfl, rfl, Nat.le_refl _, fun _ _ => rfl⟩
      clear hw11
      go_wp2_with (fail)
      go_returns
      exact ⟨rfl, Hb11⟩
    · refine (stnew_no ip rg h4 h5).mono ?_
      rintro e w6 ⟨rfl, hb6⟩
      go_wp2_with (fail)
      refine (rnew_no 8 (by decide) rg h4 h5 w6).mono ?_
      rintro e w7 ⟨rfl, hb7⟩
      have Hb6 := Hb5.trans (hb6.mono Hb5.size)
      have Hb7 := Hb6.trans (hb7.mono Hb6.size)
      go_wp2_with (fail)
      go_returns
      exact ⟨rfl, Hb7⟩
end Go.Proofs.Ytkopgjdnfjgbjaa
