import Derived.Test.YtbhgjjicmbbjaaaDoorTrM
namespace Go.Proofs.YtbhgjjicmbbjaaaDoor
open Go.RowKit
set_option linter.unusedVariables false
set_option linter.unusedSimpArgs false
/-! chapter 17: the functions that make a test of a line's parts -/
def MadePu (f n : Int) (rest : ByteArray) (x : Pu) : Prop := x.fault = f ∧ x.fuel = n ∧ x.out.size ≤ rest.size ∧ ∀ l, rest.data.toList = quoteL l → x.out.data.toList = l
set_option maxRecDepth 100000 in
theorem rpub1_any (f n : Int) (rest : ByteArray) (hs : rest.size ≤ 400000) (w : World) (hM : Mk w) : Calls Tryd.prog 35 #[.int .i64 f, .int .i64 n, .string rest] w fun e w' => (∃ x : Pu, e = .returned (puV x) ∧ MadePu f n rest x) ∧ Below w.heap.size w w' := by
  have hZ := hM.box 27 #[.string ⟨#[]⟩, .int .i64 0, .int .i64 0]
  have hb := Lib.hid (fun W (h : Mk W) => bare_any rest hs W h)
  obtain ⟨q, hq⟩ : ∃ q, w.heap.size = q := ⟨_, rfl⟩
  rw [hq] at hZ
  obtain ⟨X, hX⟩ : ∃ X, w.alloc (.cells #[.string ⟨#[]⟩, .int .i64 0, .int .i64 0] 27) = X := ⟨_, rfl⟩
  rw [hX] at hZ
  replace hX := Lib.hid hX
  replace hZ := Lib.hid hZ
  clear hM
  go_enter Tryd.func35, Tryd.ntmps35
  go_wp2_with (fail)
  try rw [hX.out]
  refine (hb.out _ hZ.out.mark).mono ?_
  rintro e w1 ⟨⟨t, rfl, ht1, ht2⟩, hb1⟩
  have hZ1 := hZ.out.bel hb1
  have hmade := Lib.hid (And.intro ht1 ht2)
  have k0 := hZ1.bk.cell 0
  have k1 := hZ1.bk.cell 1
  have k2 := hZ1.bk.cell 2
  have g0 := hZ1.bk.free 0
  have g1 := hZ1.bk.free 1
  have g2 := hZ1.bk.free 2
  simp at k0 k1 k2
  replace hZ := Lib.hid hZ1
  clear hb1 hZ1 ht1 ht2 hb
  go_wp2_with (fail)
  have hR := ((hZ.out.bk.put 0 (.string t)).put 1 (.int .i64 f)).put 2 (.int .i64 n)
  have hB := ((hZ.out.bl.setCell (p := ⟨q, 0, none⟩) (Nat.le_of_eq hq) (.string t)).setCell (p := ⟨q, 1, none⟩) (Nat.le_of_eq hq) (.int .i64 f)).setCell (p := ⟨q, 2, none⟩) (Nat.le_of_eq hq) (.int .i64 n)
  obtain ⟨w9, hw9⟩ : ∃ w9, (((w1.setCell ⟨q, 0, none⟩ (.string t)).setCell ⟨q, 1, none⟩ (.int .i64 f)).setCell ⟨q, 2, none⟩ (.int .i64 n)) = w9 := ⟨_, rfl⟩
  rw [hw9] at hR hB ⊢
  have r0 : w9.cell? ⟨q, 0, none⟩ = some (.string t) := hR.cell 0
  have r1 : w9.cell? ⟨q, 1, none⟩ = some (.int .i64 f) := hR.cell 1
  have r2 : w9.cell? ⟨q, 2, none⟩ = some (.int .i64 n) := hR.cell 2
  refine bodyPost_ret (by simp [results, Tryd.results35, go_sem, r0, r1, r2]; rfl) rfl ?_
  exact ⟨⟨⟨t, f, n⟩, rfl, ⟨rfl, rfl, hmade.out.1, hmade.out.2⟩⟩, by first | exact hB | (rw [hq]; exact hB) | (rw [hq] at hB; exact hB)⟩
def MadePr (f n : Int) (rest : ByteArray) (x : Pr) : Prop := x.fault = f ∧ x.fuel = n ∧ inI x.points ∧ x.log.size ≤ rest.size ∧ ∀ y : Pr, prOk y = true → rest.data.toList = ptL y ++ [32] ++ quoteL y.log.data.toList → x.points = y.points ∧ x.said = y.said ∧ x.log = y.log
theorem untB_size (c : UInt8) (s : ByteArray) : (untB c s).1.size ≤ s.size ∧ (untB c s).2.1.size ≤ s.size := by
  have h := untl_len c s.data.toList
  rw [data_size] at h
  exact h
set_option maxRecDepth 100000 in
set_option maxHeartbeats 4000000 in
theorem rpri1_any (f n : Int) (rest : ByteArray) (hs : rest.size ≤ 400000) (w : World) (hM : Mk w) : Calls Tryd.prog 40 #[.int .i64 f, .int .i64 n, .string rest] w fun e w' => (∃ x : Pr, e = .returned (prV x) ∧ MadePr f n rest x) ∧ Below w.heap.size w w' := by
  have hZ := hM.box 34 #[.int .i64 0, .bool false, .int .i64 0, .int .i64 0, .string ⟨#[]⟩]
  have hcut := Lib.hid (fun W => cut_any rest 32 (by omega) W)
  have hsz := untB_size 32 rest
  have hun : ∀ y : Pr, rest.data.toList = ptL y ++ [32] ++ quoteL y.log.data.toList → (untB 32 rest).1.data.toList = ptL y ∧ (untB 32 rest).2.1.data.toList = quoteL y.log.data.toList := by
    intro y h
    have h2 := prL_untl3 y
    rw [← h] at h2
    unfold untB
    rw [h2]
    simp
  obtain ⟨⟨P, T, B⟩, hU⟩ : ∃ U, untB 32 rest = U := ⟨_, rfl⟩
  rw [hU] at hcut hsz hun
  simp only at hcut hsz hun
  have hba := Lib.hid (fun W (h : Mk W) => bare_any T (by omega) W h)
  have hat := Lib.hid (fun W (h : Mk W) => atoi_any P (by omega) W h)
  obtain ⟨q, hq⟩ : ∃ q, w.heap.size = q := ⟨_, rfl⟩
  rw [hq] at hZ
  obtain ⟨X, hX⟩ : ∃ X, w.alloc (.cells #[.int .i64 0, .bool false, .int .i64 0, .int .i64 0, .string ⟨#[]⟩] 34) = X := ⟨_, rfl⟩
  rw [hX] at hZ
  replace hX := Lib.hid hX
  replace hZ := Lib.hid hZ
  replace hun := Lib.hid hun
  replace hsz := Lib.hid hsz
  replace hs := Lib.hid hs
  have hmk := Lib.hid (fun W (h : Below w.heap.size w W) => hM.bel h)
  clear hM hU
  go_enter Tryd.func40, Tryd.ntmps40
  go_wp2_with (fail)
  try rw [hX.out]
  refine (hcut.out _).mono ?_
  rintro e w1 ⟨rfl, hb⟩
  have hZ1 := hZ.out.bel hb
  replace hZ := Lib.hid hZ1
  clear hb hcut hZ1 hX
  go_wp2_with (fail)
  refine (hba.out _ hZ.out.mark).mono ?_
  rintro e w2 ⟨⟨t, rfl, ht1, ht2⟩, hb⟩
  have hZ1 := hZ.out.bel hb
  replace hZ := Lib.hid hZ1
  replace ht1 := Lib.hid ht1
  replace ht2 := Lib.hid ht2
  clear hb hba hZ1
  by_cases he : P.data.toList = [45]
  · have he2 : (P.toList == [45]) = true := by rw [Lib.toList_data]; simpa using he
    have hmade := Lib.hid (⟨rfl, rfl, (show inI 0 from ⟨by decide, by decide⟩), (show t.size ≤ rest.size by have := ht1.out; have := hsz.out; omega), fun y hy hr => by
      obtain ⟨h1, h2⟩ := hun.out y hr
      rw [he] at h1
      have hk := prOk_iff.1 hy
      have hsd := (pt_minus (x := y) hk.2.1).1 h1.symm
      refine ⟨?_, hsd.symm, ba_ext (ht2.out _ h2)⟩
      rcases hk.2.2.2 with h | h
      · rw [hsd] at h; cases h
      · exact h.symm⟩ : MadePr f n rest ⟨0, false, f, n, t⟩)
    clear he hat
    have hb := (Below.refl w2.heap.size w2).alloc (Nat.le_refl _) (.cells #[.int .i64 0, .bool false, .int .i64 f, .int .i64 n, .string t] 34)
    have hf := Bk.fresh w2 34 #[.int .i64 0, .bool false, .int .i64 f, .int .i64 n, .string t]
    have hZ1 := hZ.out.bel hb
    obtain ⟨WW, hWW⟩ : ∃ WW, w2.alloc (.cells #[.int .i64 0, .bool false, .int .i64 f, .int .i64 n, .string t] 34) = WW := ⟨_, rfl⟩
    obtain ⟨g, hg⟩ : ∃ g, w2.heap.size = g := ⟨_, rfl⟩
    rw [hWW] at hZ1 hf
    rw [hg] at hf
    have hne : g ≠ q := by have := hZ.out.bk.lt; omega
    replace hZ := Lib.hid hZ1
    have b0 := hf.cell 0
    have b1 := hf.cell 1
    have b2 := hf.cell 2
    have b3 := hf.cell 3
    have b4 := hf.cell 4
    simp at b0 b1 b2 b3 b4
    replace hWW := Lib.hid hWW
    replace hf := Lib.hid hf
    clear hb hZ1
    have k0 := hZ.out.bk.cell 0
    have k1 := hZ.out.bk.cell 1
    have k2 := hZ.out.bk.cell 2
    have k3 := hZ.out.bk.cell 3
    have k4 := hZ.out.bk.cell 4
    have g0 := hZ.out.bk.free 0
    have g1 := hZ.out.bk.free 1
    have g2 := hZ.out.bk.free 2
    have g3 := hZ.out.bk.free 3
    have g4 := hZ.out.bk.free 4
    simp at k0 k1 k2 k3 k4
    go_upto_region 3 with (fail)
    rw [hWW.out]
    go_wp2_with (fail)
    have hR := ((((hZ.out.bk.put 0 (.int .i64 0)).put 1 (.bool false)).put 2 (.int .i64 f)).put 3 (.int .i64 n)).put 4 (.string t)
    have hB := ((((hZ.out.bl.setCell (p := ⟨q, 0, none⟩) (Nat.le_of_eq hq) (.int .i64 0)).setCell (p := ⟨q, 1, none⟩) (Nat.le_of_eq hq) (.bool false)).setCell (p := ⟨q, 2, none⟩) (Nat.le_of_eq hq) (.int .i64 f)).setCell (p := ⟨q, 3, none⟩) (Nat.le_of_eq hq) (.int .i64 n)).setCell (p := ⟨q, 4, none⟩) (Nat.le_of_eq hq) (.string t)
    obtain ⟨w9, hw9⟩ : ∃ w9, ((((((WW.setCell ⟨q, 0, none⟩ (.int .i64 0)).setCell ⟨q, 1, none⟩ (.bool false)).setCell ⟨q, 2, none⟩ (.int .i64 f)).setCell ⟨q, 3, none⟩ (.int .i64 n)).setCell ⟨q, 4, none⟩ (.string t))) = w9 := ⟨_, rfl⟩
    rw [hw9] at hR hB ⊢
    have r0 : w9.cell? ⟨q, 0, none⟩ = some (.int .i64 0) := hR.cell 0
    have r1 : w9.cell? ⟨q, 1, none⟩ = some (.bool false) := hR.cell 1
    have r2 : w9.cell? ⟨q, 2, none⟩ = some (.int .i64 f) := hR.cell 2
    have r3 : w9.cell? ⟨q, 3, none⟩ = some (.int .i64 n) := hR.cell 3
    have r4 : w9.cell? ⟨q, 4, none⟩ = some (.string t) := hR.cell 4
    refine bodyPost_ret (by simp [results, Tryd.results40, go_sem, r0, r1, r2, r3, r4]; rfl) rfl ?_
    exact ⟨⟨⟨0, false, f, n, t⟩, rfl, by first | exact hmade.out | (have := hmade.out; simpa [MadePr] using this)⟩, by first | exact hB | (rw [hq]; exact hB) | (rw [hq] at hB; exact hB)⟩
  · have he2 : (P.toList == [45]) = false := by rw [Lib.toList_data]; simpa using he
    have hb := (Below.refl w2.heap.size w2).alloc (Nat.le_refl _) (.cells #[.int .i64 0, .bool true, .int .i64 f, .int .i64 n, .string t] 34)
    have hf := Bk.fresh w2 34 #[.int .i64 0, .bool true, .int .i64 f, .int .i64 n, .string t]
    have hZ1 := hZ.out.bel hb
    obtain ⟨WX, hWW⟩ : ∃ WW, w2.alloc (.cells #[.int .i64 0, .bool true, .int .i64 f, .int .i64 n, .string t] 34) = WW := ⟨_, rfl⟩
    obtain ⟨g, hg⟩ : ∃ g, w2.heap.size = g := ⟨_, rfl⟩
    rw [hWW] at hZ1 hf
    rw [hg] at hf
    have hne : g ≠ q := by have := hZ.out.bk.lt; omega
    have hgw : w.heap.size ≤ g := by have := hZ.out.bl.size; omega
    replace hZ := Lib.hid hZ1
    have b1 := hf.cell 1
    simp at b1
    rw [← hWW] at b1
    replace hWW := Lib.hid hWW
    replace hf := Lib.hid hf
    clear hb hZ1
    go_wp2_with (fail)
    rw [hWW.out]
    refine (hat.out _ hZ.out.mark).mono ?_
    rintro e w3 ⟨⟨v, ev, rfl, hA⟩, hb⟩
    have hZ1 := hZ.out.bel hb
    have hf1 := hf.out.kept hb hf.out.lt
    replace hZ := Lib.hid hZ1
    replace hf := Lib.hid hf1
    clear b1 hb hZ1 hf1 hWW hat
    obtain ⟨hAi, hAc⟩ := hA
    rcases hAc with ⟨rfl, hAo⟩ | ⟨⟨t1, p1, rfl⟩, hAo⟩
    · have hmade : Hid (MadePr f n rest ⟨v, true, f, n, t⟩) := Lib.hid (⟨rfl, rfl, hAi, (show t.size ≤ rest.size by have := ht1.out; have := hsz.out; omega), fun y hy hr => by
        obtain ⟨h1, h2⟩ := hun.out y hr
        have hk := prOk_iff.1 hy
        have hsd : y.said = true := by
          cases h : y.said
          · exact absurd (h1.trans ((pt_minus (x := y) hk.2.1).2 h)) he
          · rfl
        refine ⟨?_, hsd.symm, ba_ext (ht2.out _ h2)⟩
        have h3 : ptL y = Lib.itoa y.points := by unfold ptL; rw [if_pos hsd]
        rw [h1, h3, atoiAll_itoa _ hk.2.1 (by omega)] at hAo
        injection hAo with hAo
        exact hAo.symm⟩ : MadePr f n rest ⟨v, true, f, n, t⟩)
      clear hAo hAi he he2
      have y1 := hf.out.put 0 (.int .i64 v)
      have z1 : Bx w q 34 #[.int .i64 0, .bool false, .int .i64 0, .int .i64 0, .string ⟨#[]⟩] (w3.setCell ⟨g, 0, none⟩ (.int .i64 v)) := ⟨hmk.out _ (hZ.out.bl.setCell (p := ⟨g, 0, none⟩) hgw _), hZ.out.bk.other (p := ⟨g, 0, none⟩) hne.symm _, hZ.out.bl.setCell (p := ⟨g, 0, none⟩) hgw _⟩
      have x0 := hf.out.cell 0
      have x1 := hf.out.free 0
      simp at x0
      obtain ⟨WW, hWW⟩ : ∃ WW, w3.setCell ⟨g, 0, none⟩ (.int .i64 v) = WW := ⟨_, rfl⟩
      rw [hWW] at y1 z1
      replace hZ := Lib.hid z1
      have b0 := y1.cell 0
      have b1 := y1.cell 1
      have b2 := y1.cell 2
      have b3 := y1.cell 3
      have b4 := y1.cell 4
      simp at b0 b1 b2 b3 b4
      replace y1 := Lib.hid y1
      clear z1
      have k0 := hZ.out.bk.cell 0
      have k1 := hZ.out.bk.cell 1
      have k2 := hZ.out.bk.cell 2
      have k3 := hZ.out.bk.cell 3
      have k4 := hZ.out.bk.cell 4
      have g0 := hZ.out.bk.free 0
      have g1 := hZ.out.bk.free 1
      have g2 := hZ.out.bk.free 2
      have g3 := hZ.out.bk.free 3
      have g4 := hZ.out.bk.free 4
      simp at k0 k1 k2 k3 k4
      rw [← hWW] at b0 b1 b2 b3 b4 k0 k1 k2 k3 k4 g0 g1 g2 g3 g4
      replace hWW := Lib.hid hWW
      go_wp2_with (fail)
      rw [hWW.out]
      have hR := ((((hZ.out.bk.put 0 (.int .i64 v)).put 1 (.bool true)).put 2 (.int .i64 f)).put 3 (.int .i64 n)).put 4 (.string t)
      have hB := ((((hZ.out.bl.setCell (p := ⟨q, 0, none⟩) (Nat.le_of_eq hq) (.int .i64 v)).setCell (p := ⟨q, 1, none⟩) (Nat.le_of_eq hq) (.bool true)).setCell (p := ⟨q, 2, none⟩) (Nat.le_of_eq hq) (.int .i64 f)).setCell (p := ⟨q, 3, none⟩) (Nat.le_of_eq hq) (.int .i64 n)).setCell (p := ⟨q, 4, none⟩) (Nat.le_of_eq hq) (.string t)
      obtain ⟨w9, hw9⟩ : ∃ w9, ((((((WW.setCell ⟨q, 0, none⟩ (.int .i64 v)).setCell ⟨q, 1, none⟩ (.bool true)).setCell ⟨q, 2, none⟩ (.int .i64 f)).setCell ⟨q, 3, none⟩ (.int .i64 n)).setCell ⟨q, 4, none⟩ (.string t))) = w9 := ⟨_, rfl⟩
      rw [hw9] at hR hB ⊢
      have r0 : w9.cell? ⟨q, 0, none⟩ = some (.int .i64 v) := hR.cell 0
      have r1 : w9.cell? ⟨q, 1, none⟩ = some (.bool true) := hR.cell 1
      have r2 : w9.cell? ⟨q, 2, none⟩ = some (.int .i64 f) := hR.cell 2
      have r3 : w9.cell? ⟨q, 3, none⟩ = some (.int .i64 n) := hR.cell 3
      have r4 : w9.cell? ⟨q, 4, none⟩ = some (.string t) := hR.cell 4
      refine bodyPost_ret (by simp [results, Tryd.results40, go_sem, r0, r1, r2, r3, r4]; rfl) rfl ?_
      exact ⟨⟨⟨v, true, f, n, t⟩, rfl, by first | exact hmade.out | (have := hmade.out; simpa [MadePr] using this)⟩, by first | exact hB | (rw [hq]; exact hB) | (rw [hq] at hB; exact hB)⟩
    · have hmade : Hid (MadePr f n rest ⟨-1, true, f, n, t⟩) := Lib.hid (⟨rfl, rfl, (show inI (-1) from ⟨by decide, by decide⟩), (show t.size ≤ rest.size by have := ht1.out; have := hsz.out; omega), fun y hy hr => by
        obtain ⟨h1, h2⟩ := hun.out y hr
        have hk := prOk_iff.1 hy
        have hsd : y.said = true := by
          cases h : y.said
          · exact absurd (h1.trans ((pt_minus (x := y) hk.2.1).2 h)) he
          · rfl
        have h3 : ptL y = Lib.itoa y.points := by unfold ptL; rw [if_pos hsd]
        exact absurd (by rw [h1, h3]; exact atoiAll_itoa _ hk.2.1 (by omega)) (hAo y.points)⟩ : MadePr f n rest ⟨-1, true, f, n, t⟩)
      clear hAo hAi he he2
      have y1 := hf.out.put 0 (.int .i64 (-1))
      have z1 : Bx w q 34 #[.int .i64 0, .bool false, .int .i64 0, .int .i64 0, .string ⟨#[]⟩] (w3.setCell ⟨g, 0, none⟩ (.int .i64 (-1))) := ⟨hmk.out _ (hZ.out.bl.setCell (p := ⟨g, 0, none⟩) hgw _), hZ.out.bk.other (p := ⟨g, 0, none⟩) hne.symm _, hZ.out.bl.setCell (p := ⟨g, 0, none⟩) hgw _⟩
      have x0 := hf.out.cell 0
      have x1 := hf.out.free 0
      simp at x0
      obtain ⟨WW, hWW⟩ : ∃ WW, w3.setCell ⟨g, 0, none⟩ (.int .i64 (-1)) = WW := ⟨_, rfl⟩
      rw [hWW] at y1 z1
      replace hZ := Lib.hid z1
      have b0 := y1.cell 0
      have b1 := y1.cell 1
      have b2 := y1.cell 2
      have b3 := y1.cell 3
      have b4 := y1.cell 4
      simp at b0 b1 b2 b3 b4
      replace y1 := Lib.hid y1
      clear z1
      have k0 := hZ.out.bk.cell 0
      have k1 := hZ.out.bk.cell 1
      have k2 := hZ.out.bk.cell 2
      have k3 := hZ.out.bk.cell 3
      have k4 := hZ.out.bk.cell 4
      have g0 := hZ.out.bk.free 0
      have g1 := hZ.out.bk.free 1
      have g2 := hZ.out.bk.free 2
      have g3 := hZ.out.bk.free 3
      have g4 := hZ.out.bk.free 4
      simp at k0 k1 k2 k3 k4
      rw [← hWW] at b0 b1 b2 b3 b4 k0 k1 k2 k3 k4 g0 g1 g2 g3 g4
      replace hWW := Lib.hid hWW
      go_wp2_with (fail)
      rw [hWW.out]
      have hR := ((((hZ.out.bk.put 0 (.int .i64 (-1))).put 1 (.bool true)).put 2 (.int .i64 f)).put 3 (.int .i64 n)).put 4 (.string t)
      have hB := ((((hZ.out.bl.setCell (p := ⟨q, 0, none⟩) (Nat.le_of_eq hq) (.int .i64 (-1))).setCell (p := ⟨q, 1, none⟩) (Nat.le_of_eq hq) (.bool true)).setCell (p := ⟨q, 2, none⟩) (Nat.le_of_eq hq) (.int .i64 f)).setCell (p := ⟨q, 3, none⟩) (Nat.le_of_eq hq) (.int .i64 n)).setCell (p := ⟨q, 4, none⟩) (Nat.le_of_eq hq) (.string t)
      obtain ⟨w9, hw9⟩ : ∃ w9, ((((((WW.setCell ⟨q, 0, none⟩ (.int .i64 (-1))).setCell ⟨q, 1, none⟩ (.bool true)).setCell ⟨q, 2, none⟩ (.int .i64 f)).setCell ⟨q, 3, none⟩ (.int .i64 n)).setCell ⟨q, 4, none⟩ (.string t))) = w9 := ⟨_, rfl⟩
      rw [hw9] at hR hB ⊢
      have r0 : w9.cell? ⟨q, 0, none⟩ = some (.int .i64 (-1)) := hR.cell 0
      have r1 : w9.cell? ⟨q, 1, none⟩ = some (.bool true) := hR.cell 1
      have r2 : w9.cell? ⟨q, 2, none⟩ = some (.int .i64 f) := hR.cell 2
      have r3 : w9.cell? ⟨q, 3, none⟩ = some (.int .i64 n) := hR.cell 3
      have r4 : w9.cell? ⟨q, 4, none⟩ = some (.string t) := hR.cell 4
      refine bodyPost_ret (by simp [results, Tryd.results40, go_sem, r0, r1, r2, r3, r4]; rfl) rfl ?_
      exact ⟨⟨⟨(-1), true, f, n, t⟩, rfl, by first | exact hmade.out | (have := hmade.out; simpa [MadePr] using this)⟩, by first | exact hB | (rw [hq]; exact hB) | (rw [hq] at hB; exact hB)⟩
end Go.Proofs.YtbhgjjicmbbjaaaDoor
