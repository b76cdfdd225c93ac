import Derived.Test.YtmmfjonoenmplaaDoorGaV
namespace Go.Proofs.YtmmfjonoenmplaaDoor
open Go.RowKit Go.Extern.Stop Go.Stop Go.Extern
set_option linter.unusedVariables false
set_option linter.unusedSimpArgs false
/-! the document's Pow -/
def PowR (k : Nat) (a p : Int × Int) (ok : Bool) : Prop := powF k (1, 0) a = some p ∧ ok = decide (p.1.natAbs ≤ 16777216 ∧ p.2.natAbs ≤ 16777216) ∨ powF k (1, 0) a = none ∧ p = (0, 0) ∧ ok = false
theorem norm_one {z : Int × Int} (h : normZ z ≤ 1) : Sm z 1 := norm_sm (by decide) (by omega)
theorem norm_one_mul {z a : Int × Int} (h : normZ z ≤ 1) (k : normZ a ≤ 1) : normZ (mulZ z a) ≤ 1 := by
  rw [normZ_mul]
  have h0 := norm_nonneg z
  have k0 := norm_nonneg a
  rcases (by omega : normZ z = 0 ∨ normZ z = 1) with e | e <;> rcases (by omega : normZ a = 0 ∨ normZ a = 1) with f | f <;> rw [e, f] <;> decide
theorem powF_one {k : Nat} {z a : Int × Int} (h : normZ (mulZ z a) ≤ 1) : powF (k + 1) z a = powF k (mulZ z a) a := by
  have s := norm_one h
  unfold Sm at s
  rw [powF, if_pos (by omega)]
theorem powF_in {k : Nat} {z a : Int × Int} (h : Sm (mulZ z a) 33554432) : powF (k + 1) z a = powF k (mulZ z a) a := by
  unfold Sm at h
  rw [powF, if_pos h]
theorem powF_out {k : Nat} {z a : Int × Int} (h : ¬ Sm (mulZ z a) 33554432) : powF (k + 1) z a = none := by
  unfold Sm at h
  rw [powF, if_neg h]
/-- the box, the result's place and the product, in memory -/
def Pm (w wr : World) (g h : Nat) (a z : Int × Int) : Prop := Bk wr g 25 #[.int .i64 a.1, .int .i64 a.2] ∧ Bk wr (g + 1) 25 #[.int .i64 0, .int .i64 0] ∧ Bk wr h 25 #[.int .i64 z.1, .int .i64 z.2] ∧ Below g w wr ∧ g + 1 < h
section
variable {w wr W : World} {g h : Nat} {a z : Int × Int}
theorem Pm.bel (p : Pm w wr g h a z) (hb : Below wr.heap.size wr W) : Pm w W g h a z :=
  ⟨p.1.kept hb p.1.lt, p.2.1.kept hb p.2.1.lt, p.2.2.1.kept hb p.2.2.1.lt, p.2.2.2.1.trans (hb.mono (Nat.le_of_lt p.1.lt)), p.2.2.2.2⟩
theorem Pm.set (p : Pm w wr g h a z) (y : Int × Int) : Pm w ((wr.setCell ⟨h, 0, none⟩ (.int .i64 y.1)).setCell ⟨h, 1, none⟩ (.int .i64 y.2)) g h a y := by
  have hh := p.2.2.2.2
  exact ⟨(p.1.other (p := ⟨h, 0, none⟩) (by simp only; omega) _).other (p := ⟨h, 1, none⟩) (by simp only; omega) _, (p.2.1.other (p := ⟨h, 0, none⟩) (by simp only; omega) _).other (p := ⟨h, 1, none⟩) (by simp only; omega) _, (p.2.2.1.put 0 (.int .i64 y.1)).put 1 (.int .i64 y.2), (p.2.2.2.1.setCell (p := ⟨h, 0, none⟩) (by simp only; omega) _).setCell (p := ⟨h, 1, none⟩) (by simp only; omega) _, hh⟩
theorem Pm.out (p : Pm w wr g h a z) (y1 y2 : Int) : Below g w ((wr.setCell ⟨g + 1, 0, none⟩ (.int .i64 y1)).setCell ⟨g + 1, 1, none⟩ (.int .i64 y2)) :=
  (p.2.2.2.1.setCell (p := ⟨g + 1, 0, none⟩) (by simp only; omega) _).setCell (p := ⟨g + 1, 1, none⟩) (by simp only; omega) _
end
set_option maxRecDepth 100000 in
set_option maxHeartbeats 8000000 in
theorem rpow_any (a : Int × Int) (hs : Sm a 16777216) (k : Nat) (hk : k ≤ 64) (w : World) : Calls Tryd.prog 40 #[zV a, .int .i64 k] w fun e w' => ∃ p ok, e = .returned (.tuple #[zV p, .bool ok]) ∧ PowR k a p ok ∧ Below w.heap.size w w' := by
  have hrn := Lib.hid (fun w => rnorm_any a hs w)
  have hrm := Lib.hid (fun z (hz : Sm z 67108864) w => rmul_any z a hz hs w)
  have hwi := Lib.hid (fun z w => rwithin_any z w)
  unfold zV at hrn hrm hwi
  have hS0 := turn_start a w
  have hS : Hid (Bk ((w.alloc (.cells #[.int .i64 a.1, .int .i64 a.2] 25)).alloc (.cells #[.int .i64 0, .int .i64 0] 25)) w.heap.size 25 #[.int .i64 a.1, .int .i64 a.2] ∧ Bk ((w.alloc (.cells #[.int .i64 a.1, .int .i64 a.2] 25)).alloc (.cells #[.int .i64 0, .int .i64 0] 25)) (w.heap.size + 1) 25 #[.int .i64 0, .int .i64 0] ∧ Below w.heap.size w ((w.alloc (.cells #[.int .i64 a.1, .int .i64 a.2] 25)).alloc (.cells #[.int .i64 0, .int .i64 0] 25))) := Lib.hid (by
    obtain ⟨z, hz, h⟩ := hS0
    have hz' : a = z := hz
    subst hz'
    exact h)
  clear hS0 hs
  unfold zV
  obtain ⟨nz, hnz⟩ : ∃ n, normZ a = n := ⟨_, rfl⟩
  rw [hnz] at hrn
  replace hnz := Lib.hid hnz
  go_enter Tryd.func40, Tryd.ntmps40
  go_wp2_with (fail)
  obtain ⟨g, hg⟩ : ∃ g, w.heap.size = g := ⟨_, rfl⟩
  rw [hg] at hS ⊢
  refine (hrn.out _).mono ?_
  rintro e w1 ⟨rfl, hb⟩
  obtain ⟨h1, h2, h3⟩ := hS.out
  have hA := h1.kept hb h1.lt
  have hR := h2.kept hb h2.lt
  have hB := h3.trans (hb.mono (Nat.le_of_lt h1.lt))
  have hlt := hR.lt
  clear h1 h2 h3 hb hS
  obtain ⟨h, hh⟩ : ∃ h, w1.heap.size = h := ⟨_, rfl⟩
  have hP0 : Pm w (w1.alloc (.cells #[.int .i64 1, .int .i64 0] 25)) g h a (1, 0) := ⟨hA.past _, hR.past _, by rw [← hh]; exact Bk.fresh w1 _ _, hB.alloc (by omega) _, by omega⟩
  replace hP0 := Lib.hid hP0
  clear hA hR hB
  by_cases hn1 : nz ≤ 1
  · go_wp2_with (fail)
    go_loopw [7] (fun x wr => ∃ j : Nat, x = .int .i64 j ∧ j ≤ k ∧ Hid (∃ z, (powF (k - j) z a = powF k (1, 0) a ∧ normZ z ≤ 1) ∧ Pm w wr g h a z)) (fun x _ => k - (intOf x).toNat)
    case atStart => exact ⟨0, rfl, Nat.zero_le _, Lib.hid ⟨(1, 0), ⟨rfl, by decide⟩, hP0.out⟩⟩
    case round =>
      obtain ⟨j, rfl, hj0, hQ⟩ := hrel
      obtain ⟨z, ⟨hz, hz1⟩, hP_⟩ := hQ.out
      have hP := Lib.hid hP_
      clear hP_ hP0 hQ
      have a0 := hP.out.1.cell 0
      have a1' := hP.out.1.cell 1
      have r0 := hP.out.2.1.cell 0
      have r1 := hP.out.2.1.cell 1
      have r2 := hP.out.2.1.free 0
      have r3 := hP.out.2.1.free 1
      have z0 := hP.out.2.2.1.cell 0
      have z1 := hP.out.2.2.1.cell 1
      have z2 := hP.out.2.2.1.free 0
      have z3 := hP.out.2.2.1.free 1
      simp at a0 a1' r0 r1 z0 z1
      by_cases hj : j < k
      · have ji : (j : Int) < (k : Int) := by omega
        have hm1 := norm_one_mul hz1 (by rw [hnz.out]; exact hn1)
        rw [show k - j = (k - (j + 1)) + 1 by omega, powF_one hm1] at hz
        have hr := Lib.hid (hrm.out z (sm_mono (norm_one hz1) (by decide)))
        obtain ⟨y, hy⟩ : ∃ y, mulZ z a = y := ⟨_, rfl⟩
        rw [hy] at hr hz hm1
        have hN : Hid (powF (k - (j + 1)) y a = powF k (1, 0) a ∧ normZ y ≤ 1) := Lib.hid ⟨hz, hm1⟩
        clear hz hz1 hm1 hy
        go_wp2_with (fail)
        refine (hr.out _).mono ?_
        rintro e w2 ⟨rfl, hb⟩
        replace hP := Lib.hid (hP.out.bel hb)
        clear hb hr a0 a1' r0 r1 r2 r3 z0 z1 z2 z3
        have a0 := hP.out.1.cell 0
        have a1' := hP.out.1.cell 1
        have r0 := hP.out.2.1.cell 0
        have r1 := hP.out.2.1.cell 1
        have r2 := hP.out.2.1.free 0
        have r3 := hP.out.2.1.free 1
        have z0 := hP.out.2.2.1.cell 0
        have z1 := hP.out.2.2.1.cell 1
        have z2 := hP.out.2.2.1.free 0
        have z3 := hP.out.2.2.1.free 1
        simp at a0 a1' r0 r1 z0 z1
        have hN2 := Lib.hid (⟨y, hN.out, hP.out.set y⟩ : ∃ z', (powF (k - (j + 1)) z' a = powF k (1, 0) a ∧ normZ z' ≤ 1) ∧ Pm w _ g h a z')
        clear hP hN
        go_wp2_with (fail)
        exact ⟨⟨j + 1, rfl, hj, hN2⟩, by simp [intOf]; omega⟩
      · obtain rfl : j = k := by omega
        have e : powF j (1, 0) a = some z := by rw [← hz, show j - j = 0 by omega]; rfl
        have hse := norm_one hz1
        have hfin : Hid (PowR j a z true) := Lib.hid (.inl ⟨e, by unfold Sm at hse; simp; omega⟩)
        clear hz hz1 e hse
        go_wp2_with (fail)
        refine bodyPost_ret (by simp [results, Tryd.results40, go_sem, *]; rfl) rfl ?_
        exact ⟨z, true, rfl, hfin.out, by rw [hg]; exact hP.out.out _ _⟩
  · go_wp2_with (fail)
    go_loopw [9] (fun x wr => ∃ j : Nat, x = .int .i64 j ∧ j ≤ k ∧ Hid (∃ z, (powF (k - j) z a = powF k (1, 0) a ∧ Sm z 33554432) ∧ Pm w wr g h a z)) (fun x _ => k - (intOf x).toNat)
    case atStart => exact ⟨0, rfl, Nat.zero_le _, Lib.hid ⟨(1, 0), ⟨rfl, by unfold Sm; decide⟩, hP0.out⟩⟩
    case round =>
      obtain ⟨j, rfl, hj0, hQ⟩ := hrel
      obtain ⟨z, ⟨hz, hz1⟩, hP_⟩ := hQ.out
      have hP := Lib.hid hP_
      clear hP_ hP0 hQ
      have a0 := hP.out.1.cell 0
      have a1' := hP.out.1.cell 1
      have r0 := hP.out.2.1.cell 0
      have r1 := hP.out.2.1.cell 1
      have r2 := hP.out.2.1.free 0
      have r3 := hP.out.2.1.free 1
      have z0 := hP.out.2.2.1.cell 0
      have z1 := hP.out.2.2.1.cell 1
      have z2 := hP.out.2.2.1.free 0
      have z3 := hP.out.2.2.1.free 1
      simp at a0 a1' r0 r1 z0 z1
      by_cases hj : j < k
      · have ji : (j : Int) < (k : Int) := by omega
        rw [show k - j = (k - (j + 1)) + 1 by omega] at hz
        have hr := Lib.hid (hrm.out z (sm_mono hz1 (by decide)))
        by_cases hin : Sm (mulZ z a) 33554432
        · rw [powF_in hin] at hz
          obtain ⟨y, hy⟩ : ∃ y, mulZ z a = y := ⟨_, rfl⟩
          rw [hy] at hr hz hin
          have hN : Hid (powF (k - (j + 1)) y a = powF k (1, 0) a ∧ Sm y 33554432) := Lib.hid ⟨hz, hin⟩
          obtain ⟨i1, i2, i3, i4⟩ := hin
          clear hz hz1 hy
          go_wp2_with (fail)
          refine (hr.out _).mono ?_
          rintro e w2 ⟨rfl, hb⟩
          replace hP := Lib.hid (hP.out.bel hb)
          clear hb hr a0 a1' r0 r1 r2 r3 z0 z1 z2 z3
          have a0 := hP.out.1.cell 0
          have a1' := hP.out.1.cell 1
          have r0 := hP.out.2.1.cell 0
          have r1 := hP.out.2.1.cell 1
          have r2 := hP.out.2.1.free 0
          have r3 := hP.out.2.1.free 1
          have z0 := hP.out.2.2.1.cell 0
          have z1 := hP.out.2.2.1.cell 1
          have z2 := hP.out.2.2.1.free 0
          have z3 := hP.out.2.2.1.free 1
          simp at a0 a1' r0 r1 z0 z1
          have hN2 := Lib.hid (⟨y, hN.out, hP.out.set y⟩ : ∃ z', (powF (k - (j + 1)) z' a = powF k (1, 0) a ∧ Sm z' 33554432) ∧ Pm w _ g h a z')
          clear hP hN
          go_wp2_with (fail)
          exact ⟨⟨j + 1, rfl, hj, hN2⟩, by simp [intOf]; omega⟩
        · rw [powF_out hin] at hz
          obtain ⟨y, hy⟩ : ∃ y, mulZ z a = y := ⟨_, rfl⟩
          rw [hy] at hr hin
          have hfin : Hid (PowR k a (0, 0) false) := Lib.hid (.inr ⟨hz.symm, rfl, rfl⟩)
          have hc : 33554432 < y.1 ∨ y.1 ≤ 33554432 ∧ y.1 < -33554432 ∨ y.1 ≤ 33554432 ∧ -33554432 ≤ y.1 ∧ 33554432 < y.2 ∨ y.1 ≤ 33554432 ∧ -33554432 ≤ y.1 ∧ y.2 ≤ 33554432 ∧ y.2 < -33554432 := by
            unfold Sm at hin
            omega
          clear hz hz1 hy hin
          rcases hc with i1 | ⟨i1, i2⟩ | ⟨i1, i2, i3⟩ | ⟨i1, i2, i3, i4⟩
          all_goals (
            go_wp2_with (fail)
            refine (hr.out _).mono ?_
            rintro e w2 ⟨rfl, hb⟩
            replace hP := Lib.hid (hP.out.bel hb)
            clear hb hr a0 a1' r0 r1 r2 r3 z0 z1 z2 z3
            have a0 := hP.out.1.cell 0
            have a1' := hP.out.1.cell 1
            have r0 := hP.out.2.1.cell 0
            have r1 := hP.out.2.1.cell 1
            have r2 := hP.out.2.1.free 0
            have r3 := hP.out.2.1.free 1
            have z0 := hP.out.2.2.1.cell 0
            have z1 := hP.out.2.2.1.cell 1
            have z2 := hP.out.2.2.1.free 0
            have z3 := hP.out.2.2.1.free 1
            simp at a0 a1' r0 r1 z0 z1
            have hP2 := hP.out.set y
            replace hP := Lib.hid hP2
            clear hP2
            go_wp2_with (fail)
            refine bodyPost_ret (by simp [results, Tryd.results40, go_sem, *]; rfl) rfl ?_
            exact ⟨(0, 0), false, rfl, hfin.out, by rw [hg]; exact hP.out.out _ _⟩)
      · obtain rfl : j = k := by omega
        have e : powF j (1, 0) a = some z := by rw [← hz, show j - j = 0 by omega]; rfl
        have hw := Lib.hid (hwi.out z)
        obtain ⟨ok, hok⟩ : ∃ ok, decide (z.1.natAbs ≤ 16777216 ∧ z.2.natAbs ≤ 16777216) = ok := ⟨_, rfl⟩
        rw [hok] at hw
        have hfin : Hid (PowR j a z ok) := Lib.hid (.inl ⟨e, hok.symm⟩)
        clear hz hz1 e hok
        go_wp2_with (fail)
        refine (hw.out _).mono ?_
        rintro e w2 ⟨rfl, hb⟩
        replace hP := Lib.hid (hP.out.bel hb)
        clear hb a0 a1' r0 r1 r2 r3 z0 z1 z2 z3
        have a0 := hP.out.1.cell 0
        have a1' := hP.out.1.cell 1
        have r0 := hP.out.2.1.cell 0
        have r1 := hP.out.2.1.cell 1
        have r2 := hP.out.2.1.free 0
        have r3 := hP.out.2.1.free 1
        have z0 := hP.out.2.2.1.cell 0
        have z1 := hP.out.2.2.1.cell 1
        have z2 := hP.out.2.2.1.free 0
        have z3 := hP.out.2.2.1.free 1
        simp at a0 a1' r0 r1 z0 z1
        go_wp2_with (fail)
        refine bodyPost_ret (by simp [results, Tryd.results40, go_sem, *]; rfl) rfl ?_
        exact ⟨z, ok, rfl, hfin.out, by rw [hg]; exact hP.out.out _ _⟩
end Go.Proofs.YtmmfjonoenmplaaDoor
