import Derived.Test.YtmmfjonoenmplaaDoorGaU
namespace Go.Proofs.YtmmfjonoenmplaaDoor
open Go.RowKit Go.Extern.Stop Go.Stop Go.Extern
set_option linter.unusedVariables false
set_option linter.unusedSimpArgs false
/-! the document's Norm, First -/
set_option maxRecDepth 100000 in
theorem rnorm_any (a : Int × Int) (hs : Sm a 16777216) (w : World) : Calls Tryd.prog 37 #[zV a] w fun e w' => e = .returned (.int .i64 (normZ a)) ∧ Below w.heap.size w w' := by
  have h := norm_le hs
  obtain ⟨a1, a2⟩ := a
  simp only at h
  have w1 : IntKind.i64.wrap (a1 * a1) = a1 * a1 := by rw [IntKind.wrap_i64]; omega
  have w2 : IntKind.i64.wrap (a2 * a2) = a2 * a2 := by rw [IntKind.wrap_i64]; omega
  have w3 : IntKind.i64.wrap (a1 * a1 + a2 * a2) = a1 * a1 + a2 * a2 := by rw [IntKind.wrap_i64]; omega
  clear h hs
  unfold zV normZ
  simp only
  go_enter Tryd.func37, Tryd.ntmps37
  go_wp2_with (fail)
  go_returns
  exact ⟨rfl, by go_grown⟩
set_option maxRecDepth 100000 in
set_option maxHeartbeats 4000000 in
theorem rfirst_any (a : Int × Int) (hs : Sm a 16777216) (w : World) : Calls Tryd.prog 36 #[zV a] w fun e w' => e = .returned (zV (firstZ a)) ∧ Below w.heap.size w w' := by
  have ht := Lib.hid (fun (z : Int × Int) (h : Sm z 16777216) (W : World) => rturn_any z (sm_mono h (by decide)) 1 W)
  have hS0 := turn_start a w
  have hS : Hid (∃ z, (firstK (4 - 0) z = firstZ a ∧ Sm z 16777216) ∧ Bk ((w.alloc (.cells #[.int .i64 a.1, .int .i64 a.2] 25)).alloc (.cells #[.int .i64 0, .int .i64 0] 25)) w.heap.size 25 #[.int .i64 z.1, .int .i64 z.2] ∧ Bk ((w.alloc (.cells #[.int .i64 a.1, .int .i64 a.2] 25)).alloc (.cells #[.int .i64 0, .int .i64 0] 25)) (w.heap.size + 1) 25 #[.int .i64 0, .int .i64 0] ∧ Below w.heap.size w ((w.alloc (.cells #[.int .i64 a.1, .int .i64 a.2] 25)).alloc (.cells #[.int .i64 0, .int .i64 0] 25))) := Lib.hid (by
    obtain ⟨z, hz, h⟩ := hS0
    have hz' : a = z := hz
    subst hz'
    exact ⟨a, ⟨rfl, hs⟩, h⟩)
  clear hS0
  unfold zV
  clear hs
  go_enter Tryd.func36, Tryd.ntmps36
  go_wp2_with (fail)
  obtain ⟨g, hg⟩ : ∃ g, w.heap.size = g := ⟨_, rfl⟩
  rw [hg] at hS ⊢
  go_loopw [3] (fun x wr => ∃ j : Nat, x = .int .i64 j ∧ j ≤ 4 ∧ Hid (∃ z, (firstK (4 - j) z = firstZ a ∧ Sm z 16777216) ∧ Bk wr g 25 #[.int .i64 z.1, .int .i64 z.2] ∧ Bk wr (g + 1) 25 #[.int .i64 0, .int .i64 0] ∧ Below g w wr)) (fun x _ => 4 - (intOf x).toNat)
  case atStart => exact ⟨0, rfl, by decide, hS⟩
  case round =>
    obtain ⟨j, rfl, hj0, hQ⟩ := hrel
    obtain ⟨z, ⟨hz, hsz⟩, hK, hL, hB⟩ := hQ.out
    have c0 := hK.cell 0
    have c1 := hK.cell 1
    have f0 := hK.free 0
    have f1 := hK.free 1
    have d0 := hL.cell 0
    have d1 := hL.cell 1
    have e0 := hL.free 0
    have e1 := hL.free 1
    simp at c0 c1 d0 d1
    have hend : Hid (firstZ a = z → Below g w ((wr.setCell ⟨g + 1, 0, none⟩ (.int .i64 z.1)).setCell ⟨g + 1, 1, none⟩ (.int .i64 z.2))) := Lib.hid (fun _ => (hB.setCell (p := ⟨g + 1, 0, none⟩) (Nat.le_succ g) (.int .i64 z.1)).setCell (p := ⟨g + 1, 1, none⟩) (Nat.le_succ g) (.int .i64 z.2))
    by_cases hj : j < 4
    · have ji : (j : Int) < 4 := by omega
      rw [show 4 - j = (3 - j) + 1 by omega, firstK] at hz
      by_cases hh : headZ z
      · rw [if_pos hh] at hz
        have p1 : 0 < z.1 := hh.1
        have p2 : 0 ≤ z.2 := hh.2
        replace hz := Lib.hid hz
        clear hK hL hB hQ hS hh
        go_wp2_with (fail)
        refine bodyPost_ret (by simp [results, Tryd.results36, go_sem, *]; rfl) rfl ?_
        refine ⟨?_, by rw [hg]; exact hend.out hz.out.symm⟩
        rw [← hz.out]
      · rw [if_neg hh] at hz
        have hK' := Lib.hid hK
        have hL' := Lib.hid hL
        have hB' := Lib.hid hB
        have hr := Lib.hid (ht.out z hsz)
        have hN : Hid (firstK (4 - (j + 1)) (rotZ z) = firstZ a ∧ Sm (rotZ z) 16777216) := Lib.hid ⟨by rw [show 4 - (j + 1) = 3 - j by omega]; exact hz, rot_sm hsz⟩
        unfold zV at hr
        have tz : turnZ z 1 = rotZ z := rfl
        rw [tz] at hr
        replace hh := Lib.hid hh
        by_cases p1 : 0 < z.1
        · have p2 : ¬ 0 ≤ z.2 := fun h => hh.out ⟨p1, h⟩
          clear hK hL hB hQ hS hz hsz hend ht hh tz
          go_wp2_with (fail)
          refine (hr.out _).mono ?_
          rintro e wt ⟨rfl, hb⟩
          have hK2 := hK'.out.kept hb hK'.out.lt
          have hL2 := hL'.out.kept hb hL'.out.lt
          have hB2 := hB'.out.trans (hb.mono (Nat.le_of_lt hK'.out.lt))
          have hgs : g ≤ wt.heap.size := Nat.le_of_lt hK2.lt
          obtain ⟨y1, hy1⟩ : ∃ y, (rotZ z).1 = y := ⟨_, rfl⟩
          obtain ⟨y2, hy2⟩ : ∃ y, (rotZ z).2 = y := ⟨_, rfl⟩
          have hN2 := Lib.hid (⟨rotZ z, hN.out, by rw [hy1, hy2]; exact (hK2.put 0 (.int .i64 y1)).put 1 (.int .i64 y2), (hL2.other (p := ⟨g, 0, none⟩) (by simp) (.int .i64 y1)).other (p := ⟨g, 1, none⟩) (by simp) (.int .i64 y2), (hB2.setCell (p := ⟨g, 0, none⟩) (Nat.le_refl g) (.int .i64 y1)).setCell (p := ⟨g, 1, none⟩) (Nat.le_refl g) (.int .i64 y2)⟩ : ∃ z', (firstK (4 - (j + 1)) z' = firstZ a ∧ Sm z' 16777216) ∧ Bk _ g 25 #[.int .i64 z'.1, .int .i64 z'.2] ∧ Bk _ (g + 1) 25 #[.int .i64 0, .int .i64 0] ∧ Below _ w _)
          have s0 := hK2.cell 0
          have s1 := hK2.cell 1
          have t0 := hK2.free 0
          have t1 := hK2.free 1
          simp at s0 s1
          rw [hy1, hy2]
          clear hK2 hL2 hB2 hb c0 c1 d0 d1 e0 e1 f0 f1 hy1 hy2 hK' hL' hB' hN hr
          go_wp2_with (fail)
          exact ⟨⟨j + 1, rfl, by omega, hN2⟩, by simp [intOf]; omega⟩
        · clear hK hL hB hQ hS hz hsz hend ht hh tz
          go_wp2_with (fail)
          refine (hr.out _).mono ?_
          rintro e wt ⟨rfl, hb⟩
          have hK2 := hK'.out.kept hb hK'.out.lt
          have hL2 := hL'.out.kept hb hL'.out.lt
          have hB2 := hB'.out.trans (hb.mono (Nat.le_of_lt hK'.out.lt))
          have hgs : g ≤ wt.heap.size := Nat.le_of_lt hK2.lt
          obtain ⟨y1, hy1⟩ : ∃ y, (rotZ z).1 = y := ⟨_, rfl⟩
          obtain ⟨y2, hy2⟩ : ∃ y, (rotZ z).2 = y := ⟨_, rfl⟩
          have hN2 := Lib.hid (⟨rotZ z, hN.out, by rw [hy1, hy2]; exact (hK2.put 0 (.int .i64 y1)).put 1 (.int .i64 y2), (hL2.other (p := ⟨g, 0, none⟩) (by simp) (.int .i64 y1)).other (p := ⟨g, 1, none⟩) (by simp) (.int .i64 y2), (hB2.setCell (p := ⟨g, 0, none⟩) (Nat.le_refl g) (.int .i64 y1)).setCell (p := ⟨g, 1, none⟩) (Nat.le_refl g) (.int .i64 y2)⟩ : ∃ z', (firstK (4 - (j + 1)) z' = firstZ a ∧ Sm z' 16777216) ∧ Bk _ g 25 #[.int .i64 z'.1, .int .i64 z'.2] ∧ Bk _ (g + 1) 25 #[.int .i64 0, .int .i64 0] ∧ Below _ w _)
          have s0 := hK2.cell 0
          have s1 := hK2.cell 1
          have t0 := hK2.free 0
          have t1 := hK2.free 1
          simp at s0 s1
          rw [hy1, hy2]
          clear hK2 hL2 hB2 hb c0 c1 d0 d1 e0 e1 f0 f1 hy1 hy2 hK' hL' hB' hN hr
          go_wp2_with (fail)
          exact ⟨⟨j + 1, rfl, by omega, hN2⟩, by simp [intOf]; omega⟩
    · obtain rfl : j = 4 := by omega
      have hz' : z = firstZ a := hz
      replace hz := Lib.hid hz'
      clear hK hL hB hQ hS hz'
      go_wp2_with (fail)
      refine bodyPost_ret (by simp [results, Tryd.results36, go_sem, *]; rfl) rfl ?_
      refine ⟨?_, by rw [hg]; exact hend.out hz.out.symm⟩
      rw [← hz.out]
end Go.Proofs.YtmmfjonoenmplaaDoor
