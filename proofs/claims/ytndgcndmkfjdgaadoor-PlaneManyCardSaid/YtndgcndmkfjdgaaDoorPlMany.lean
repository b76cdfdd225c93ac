import Derived.Test.YtndgcndmkfjdgaaDoorPlK
namespace Go.Proofs.YtndgcndmkfjdgaaDoor
open Go.RowKit Go.Extern.Stop Go.Stop Go.Extern
set_option linter.unusedVariables false
set_option linter.unusedSimpArgs false
/-! PlaneMany -/
theorem fi_refl (z : Int) (h : z.natAbs < 9007199254740992) : (FloatKind.f64.format.order (fi z false) (fi z false) == some .eq) = true := fi_self z h
set_option maxRecDepth 100000 in
set_option maxHeartbeats 4000000 in
theorem walk_many (n : Int) (down : Bool) (w : World) (hM : True) (hn : -9223372036854775808 ≤ n ∧ n ≤ 9223372036854775807) : Calls Tryd.prog 5 #[.int .i64 n, .bool down] w fun e w' => e = .returned (.bool true) ∧ Below w.heap.size w w' := by
  have hsh := Lib.hid (fun w => shown_any w)
  have hnw := Lib.hid (fun w => tnew w)
  go_enter Tryd.func5, Tryd.ntmps5
  go_wp2_with (fail)
  refine (hsh.out _).mono ?_
  rintro e w1 ⟨rfl, hB⟩
  clear hsh
  go_wp2_with (fail)
  refine (hnw.out _).mono ?_
  rintro e w2 ⟨rfl, hT, hB2⟩
  clear hnw
  have hk : w.heap.size ≤ w1.heap.size := hB.size
  have hB := hB.trans (hB2.mono hB.size)
  obtain ⟨t, ht⟩ : ∃ t, w1.heap.size = t := ⟨_, rfl⟩
  rw [ht] at hk hT ⊢
  clear hB2 ht
  replace hT := Lib.hid (show Tt w2 w.heap.size t (.slice none 0 0) (0, 0) (1, 0) true [] from ⟨hT.bk, World.ownsRow_nil _ _ _ _, hT.sa, hT.un, hT.ok, hT.le⟩)
  replace hB := Lib.hid hB
  replace hk := Lib.hid hk
  go_wp2_with (fail)
  go_loopw [7] (fun x wr => ∃ i : Nat, x = .int .i64 i ∧ i ≤ 4096 ∧ Hid (∃ (V : Value) (ms : List Mk), Tt wr w.heap.size t V (((i % 2 : Nat) : Int), 0) (1, 0) true ms ∧ ms.length = i ∧ Below w.heap.size w wr)) (fun x _ => 4096 - (intOf x).toNat)
  case atStart => exact ⟨0, rfl, by decide, Lib.hid ⟨_, [], hT.out, rfl, hB.out⟩⟩
  case round =>
    obtain ⟨i, rfl, hi, hQ⟩ := hrel
    obtain ⟨V, ms, hT, hl, hB⟩ := hQ.out
    clear hQ
    replace hB := Lib.hid hB
    have hkk := hk.out
    by_cases hi4 : i < 4096
    · have i0 : (i : Int) < 4096 := by omega
      rcases (by omega : i % 2 = 0 ∨ i % 2 = 1) with hp | hp
      · have hT : Tt wr w.heap.size t V (0, 0) (1, 0) true ms := by rw [hp] at hT; exact hT
        have hst := Lib.hid (step_draw hT hB.out hkk 1 (1, 0) (by decide) (by unfold Sm; decide) (by decide) (by omega))
        have hp' : (i : Int) % 2 = 0 := by omega
        have hp2 : (i + 1) % 2 = 1 := by omega
        replace hp2 := Lib.hid hp2
        replace hl := Lib.hid hl
        clear hT hkk hp
        go_wp2_with (fail)
        refine hst.out.mono ?_
        rintro e w3 ⟨rfl, V', hT, hB3⟩
        replace hT := Lib.hid hT
        replace hB3 := Lib.hid hB3
        go_wp2_with (fail)
        exact ⟨⟨i + 1, rfl, by omega, Lib.hid ⟨V', _, by rw [hp2.out]; exact hT.out, by simp [hl.out], hB3.out⟩⟩, by simp [intOf]; omega⟩
      · have hT : Tt wr w.heap.size t V (1, 0) (1, 0) true ms := by rw [hp] at hT; exact hT
        have hst := Lib.hid (step_draw hT hB.out hkk (-1) (0, 0) (by decide) (by unfold Sm; decide) (by decide) (by omega))
        have hp' : (i : Int) % 2 = 1 := by omega
        have hp2 : (i + 1) % 2 = 0 := by omega
        replace hp2 := Lib.hid hp2
        replace hl := Lib.hid hl
        clear hT hkk hp
        go_wp2_with (fail)
        refine hst.out.mono ?_
        rintro e w3 ⟨rfl, V', hT, hB3⟩
        replace hT := Lib.hid hT
        replace hB3 := Lib.hid hB3
        go_wp2_with (fail)
        exact ⟨⟨i + 1, rfl, by omega, Lib.hid ⟨V', _, by rw [hp2.out]; exact hT.out, by simp [hl.out], hB3.out⟩⟩, by simp [intOf]; omega⟩
    · obtain rfl : i = 4096 := by omega
      have hT : Tt wr w.heap.size t V (0, 0) (1, 0) true ms := hT
      have hpen := Lib.hid (tpen hT down)
      clear hT
      go_wp2_with (fail)
      refine hpen.out.mono ?_
      rintro e w3 ⟨rfl, hT, hO⟩
      replace hB := Lib.hid (hB.out.trans (hO.below hkk hB.out.size))
      have hat := tat hT
      rw [cw_zero] at hat
      replace hat := Lib.hid hat
      clear hpen hO
      go_wp2_with (fail)
      refine hat.out.mono ?_
      rintro e w4 ⟨rfl, hw_⟩
      have hw_ := hw_.symm
      subst hw_
      have e1 : (FloatKind.f64.format.order 0 0 == some .eq) = true := by decide +kernel
      clear hat
      by_cases hbig : 16777216 < n ∨ n < -16777216
      · have hfw := Lib.hid (tfwd_far hT n (by unfold Sm toZ; simp only; omega))
        go_wp2_with (fail)
        refine hfw.out.mono ?_
        rintro e w5 ⟨rfl, hb5⟩
        have hT := hT.bel hb5
        replace hB := Lib.hid (hB.out.trans (hb5.mono hB.out.size))
        have hat := tat hT
        rw [cw_zero] at hat
        replace hat := Lib.hid hat
        have hmk := marks_read hT
        rw [hl] at hmk
        replace hmk := Lib.hid hmk
        replace hl := Lib.hid hl
        clear hfw hb5 hT
        rcases hbig with hbig | hbig
        · go_wp2_with (fail)
          refine hat.out.mono ?_
          rintro e w6 ⟨rfl, hw_⟩
          have hw_ := hw_.symm
          subst hw_
          go_wp2_with (fail)
          refine hmk.out.mono ?_
          rintro e w7 ⟨A, c, rfl, hm, hb7⟩
          clear hm
          go_wp2_with (fail)
          go_returns
          exact ⟨rfl, hB.out.trans (hb7.mono hB.out.size)⟩
        · have hs : ¬ 16777216 < n := by omega
          go_wp2_with (fail)
          refine hat.out.mono ?_
          rintro e w6 ⟨rfl, hw_⟩
          have hw_ := hw_.symm
          subst hw_
          go_wp2_with (fail)
          refine hmk.out.mono ?_
          rintro e w7 ⟨A, c, rfl, hm, hb7⟩
          clear hm
          go_wp2_with (fail)
          go_returns
          exact ⟨rfl, hB.out.trans (hb7.mono hB.out.size)⟩
      · have hs1 : ¬ 16777216 < n := by omega
        have hs2 : ¬ n < -16777216 := by omega
        have hto : Sm (toZ (0, 0) (1, 0) n) 16777216 := by unfold Sm toZ; simp only; omega
        by_cases hd : down = true ∧ n ≠ 0
        · obtain ⟨rfl, hn0⟩ := hd
          have hfw := Lib.hid (tfwd_many hT n hto hn0 hl)
          have hn0' : (n != 0) = true := by simpa using hn0
          go_wp2_with (fail)
          refine hfw.out.mono ?_
          rintro e w5 ⟨rfl, hb5⟩
          have hT := hT.bel hb5
          replace hB := Lib.hid (hB.out.trans (hb5.mono hB.out.size))
          have hat := tat hT
          rw [cw_zero] at hat
          replace hat := Lib.hid hat
          have hmk := marks_read hT
          rw [hl] at hmk
          replace hmk := Lib.hid hmk
          replace hl := Lib.hid hl
          clear hfw hb5 hT hto
          go_wp2_with (fail)
          refine hat.out.mono ?_
          rintro e w6 ⟨rfl, hw_⟩
          have hw_ := hw_.symm
          subst hw_
          go_wp2_with (fail)
          refine hmk.out.mono ?_
          rintro e w7 ⟨A, c, rfl, hm, hb7⟩
          clear hm
          go_wp2_with (fail)
          go_returns
          exact ⟨rfl, hB.out.trans (hb7.mono hB.out.size)⟩
        · have hd2 : down = false ∨ n = 0 := by
            cases down
            · exact .inl rfl
            · exact .inr (Decidable.byContradiction fun h => hd ⟨rfl, h⟩)
          have hfw := Lib.hid (tfwd_go hT n hto hd2)
          have hz : toZ (0, 0) (1, 0) n = (n, 0) := by unfold toZ; simp
          rw [hz] at hfw
          have tf := fun w => toFloat_run n (by omega) w
          have e2 := fi_self n (by omega)
          go_wp2_with (fail)
          refine hfw.out.mono ?_
          rintro e w5 ⟨rfl, hT5, hd5⟩
          replace hB := Lib.hid (hB.out.trans (hd5.below hkk (fun k hk => own_ge hT.row k hk) hB.out.size))
          have hmk := marks_read hT5
          rw [hl] at hmk
          replace hmk := Lib.hid hmk
          have hl' := Lib.hid hl
          clear hfw hd5 hT hto hl hd hz
          replace hT5 := Lib.hid hT5
          rcases hd2 with rfl | rfl
          · go_wp2_with (fail)
            refine hmk.out.mono ?_
            rintro e w7 ⟨A, c, rfl, hm, hb7⟩
            have hat := Lib.hid (tat (hT5.out.bel hb7))
            unfold cw at hat
            replace hB := Lib.hid (hB.out.trans (hb7.mono hB.out.size))
            clear hm
            go_wp2_with (fail)
            refine hat.out.mono ?_
            rintro e w6 ⟨rfl, hw_⟩
            have hw_ := hw_.symm
            subst hw_
            go_wp2_with (fail)
            go_returns
            exact ⟨rfl, hB.out⟩
          · cases down
            all_goals
              go_wp2_with (fail)
              refine hmk.out.mono ?_
              rintro e w7 ⟨A, c, rfl, hm, hb7⟩
              have hat := Lib.hid (tat (hT5.out.bel hb7))
              unfold cw at hat
              replace hB := Lib.hid (hB.out.trans (hb7.mono hB.out.size))
              clear hm
              go_wp2_with (fail)
              refine hat.out.mono ?_
              rintro e w6 ⟨rfl, hw_⟩
              have hw_ := hw_.symm
              subst hw_
              go_wp2_with (fail)
              go_returns
              exact ⟨rfl, hB.out⟩
end Go.Proofs.YtndgcndmkfjdgaaDoor
