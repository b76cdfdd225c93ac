import Derived.Test.YtmmfjonoenmplaaDoorGaF
namespace Go.Proofs.YtmmfjonoenmplaaDoor
open Go.RowKit Go.Extern.Stop Go.Stop Go.Extern
set_option linter.unusedVariables false
set_option linter.unusedSimpArgs false
/-! gauss.First, Gcd -/
theorem gt_zero {x : Nat} {a : Int} (hx : Wd x a) : (FloatKind.f64.format.order x 0 == some .gt) = decide (0 < a) := by
  have h : FloatKind.f64.format.order x 0 = some (compare a 0) := wd_order hx wd_zero
  rw [h]
  by_cases h0 : 0 < a
  · rw [decide_eq_true h0, cmp_gt.2 h0]; rfl
  · rw [decide_eq_false h0]
    have : compare a 0 ≠ .gt := fun e => h0 (cmp_gt.1 e)
    simpa using this
def rotZ (a : Int × Int) : Int × Int := (-a.2, a.1)
def headZ (a : Int × Int) : Prop := 0 < a.1 ∧ 0 ≤ a.2
instance (a : Int × Int) : Decidable (headZ a) := by unfold headZ; exact inferInstance
def firstK : Nat → Int × Int → Int × Int
  | 0, a => a
  | k + 1, a => if headZ a then a else firstK k (rotZ a)
def firstZ (a : Int × Int) : Int × Int := firstK 4 a
theorem nm_rot {x : Nat × Nat} {a : Int × Int} (hx : Nm x a) (ha : Sm a 67108864) : ∃ r : Nat × Nat, Nm r (rotZ a) ∧ ∀ w, (binOp .mul 28 (.complex .f64 x.1 x.2) (.complex .f64 0 4607182418800017408)).run Tryd.prog w = .ok (.complex .f64 r.1 r.2) w := by
  obtain ⟨r, h1, h2⟩ := nm_mul (y := (0, 4607182418800017408)) (b := (0, 1)) hx ⟨wd_zero, wd_pos1⟩ ha (by unfold Sm; decide) 28
  refine ⟨r, ?_, h2⟩
  have e : (a.1 * (0, (1 : Int)).1 - a.2 * ((0 : Int), (1 : Int)).2, a.1 * ((0 : Int), (1 : Int)).2 + a.2 * ((0 : Int), (1 : Int)).1) = rotZ a := by
    unfold rotZ
    simp
  rw [← e]; exact h1
theorem rot_sm {a : Int × Int} {B : Int} (h : Sm a B) : Sm (rotZ a) B := by unfold Sm rotZ at *; simp only; omega
set_option maxRecDepth 100000 in
theorem first_bad (x : Nat × Nat) (lx : x.1 < 18446744073709551616 ∧ x.2 < 18446744073709551616) (hno : ¬ (Rt x.1 ∧ Rt x.2)) (w : World) : Calls Tryd.prog 33 #[.complex .f64 x.1 x.2] w fun e w' => e = .returned bad ∧ Below w.heap.size w w' := by
  obtain ⟨x1, x2⟩ := x
  have has := Lib.hid (fun (w : World) (g : Nat) (c0 : w.cell? ⟨g, 0, none⟩ = some (.complex .f64 x1 x2)) => asked1 (x1, x2) w g c0 lx)
  have hne := errNe
  unfold errArg at hne
  replace hno := Lib.hid hno
  clear lx
  go_enter Tryd.func33, Tryd.ntmps33
  go_wp2_with (fail)
  have hB := (Below.refl w.heap.size w).alloc (Nat.le_refl _) (.cells #[.complex .f64 x1 x2] 28)
  have hK := Bk.fresh w 28 #[.complex .f64 x1 x2]
  obtain ⟨X, hX⟩ : ∃ X, w.alloc (.cells #[.complex .f64 x1 x2] 28) = X := ⟨_, rfl⟩
  rw [hX] at hB hK ⊢
  refine (has.out X _ (hK.cell 0)).mono ?_
  rintro e w1 ⟨v, rfl, hv, n, hn_⟩
  have hn_ := hn_.symm
  subst hn_
  obtain rfl : v = errArg := by
    rcases hv with h | h
    · exact absurd h.1 hno.out
    · exact h.2
  clear hv
  have hB2 : Below w.heap.size w (X.drewN n) := hB.trans ⟨rfl, rfl, rfl, Nat.le_refl _, fun _ _ => rfl⟩
  clear hB hK
  unfold errArg
  go_wp2_with (fail)
  go_returns
  exact ⟨rfl, hB2⟩
set_option maxRecDepth 100000 in
theorem first_ok (x : Nat × Nat) (a : Int × Int) (hx : Nm x a) (ha : Sm a 16777216) (w : World) : Calls Tryd.prog 33 #[.complex .f64 x.1 x.2] w fun e w' => e = .returned (.tuple #[cw (firstZ a), .int .i64 0]) ∧ Below w.heap.size w w' := by
  obtain ⟨x1, x2⟩ := x
  have hrx := (nm_rt hx).2 ha
  have lx := nm_lt hx
  have has := Lib.hid (fun (w : World) (g : Nat) (c0 : w.cell? ⟨g, 0, none⟩ = some (.complex .f64 x1 x2)) => asked1 (x1, x2) w g c0 lx)
  have hne := nilNe
  have hq0 : Hid (∃ z, Nm (x1, x2) z ∧ Sm z 16777216 ∧ firstK 4 z = firstZ a) := Lib.hid ⟨a, hx, ha, rfl⟩
  replace hrx := Lib.hid hrx
  clear lx hx ha
  go_enter Tryd.func33, Tryd.ntmps33
  go_wp2_with (fail)
  have hB := (Below.refl w.heap.size w).alloc (Nat.le_refl _) (.cells #[.complex .f64 x1 x2] 28)
  have hK := Bk.fresh w 28 #[.complex .f64 x1 x2]
  obtain ⟨X, hX⟩ : ∃ X, w.alloc (.cells #[.complex .f64 x1 x2] 28) = X := ⟨_, rfl⟩
  rw [hX] at hB hK ⊢
  refine (has.out X _ (hK.cell 0)).mono ?_
  rintro e w1 ⟨v, rfl, hv, n, hn_⟩
  have hn_ := hn_.symm
  subst hn_
  obtain rfl : v = .nilIface := by
    rcases hv with h | h
    · exact h.2
    · exact absurd hrx.out h.1
  clear hv
  have hB2 : Below w.heap.size w (X.drewN n) := hB.trans ⟨rfl, rfl, rfl, Nat.le_refl _, fun _ _ => rfl⟩
  clear hB hK
  go_wp2_with (fail)
  go_loopw [0, 8] (fun v c wr => ∃ (j : Nat) (p : Nat × Nat), c = .int .i64 j ∧ j ≤ 4 ∧ v = .complex .f64 p.1 p.2 ∧ Hid (∃ z, Nm p z ∧ Sm z 16777216 ∧ firstK (4 - j) z = firstZ a) ∧ Hid (wr = X.drewN n)) (fun _ c _ => 4 - (intOf c).toNat)
  case atStart => exact ⟨0, (x1, x2), rfl, by decide, rfl, hq0, Lib.hid rfl⟩
  case round =>
    obtain ⟨j, p, rfl, hj, rfl, hQ, hw⟩ := hrel
    obtain ⟨z, hz, hs, hf⟩ := hQ.out
    have hwB : Below w.heap.size w wr := by rw [hw.out]; exact hB2
    replace hwB := Lib.hid hwB
    by_cases h4 : j < 4
    · have j4 : (j : Int) < 4 := by omega
      rw [show 4 - j = (3 - j) + 1 by omega] at hf
      have g1 := gt_zero hz.1
      have g2 := gt_zero hz.2
      have g3 := eq_zero hz.2
      by_cases h1 : 0 < z.1
      · rw [decide_eq_true h1] at g1
        by_cases h2 : 0 ≤ z.2
        · have hfz : z = firstZ a := by rw [← hf]; unfold firstK; rw [if_pos ⟨h1, h2⟩]
          have hc := Lib.hid (fun w => clean_any _ _ _ _ hz.1 hz.2 w)
          have gg : (FloatKind.f64.format.order p.2 0 == some .gt || FloatKind.f64.format.order p.2 0 == some .eq) = true := by
            rw [g2, g3]; simp; omega
          obtain ⟨p1, p2⟩ := p
          replace hfz := Lib.hid hfz
          clear hz hs hf hQ h1 h2 g2 g3
          go_wp2_with (fail)
          refine (hc.out _).mono ?_
          rintro e w2 ⟨rfl, hw_⟩
          have hw_ := hw_.symm
          subst hw_
          go_wp2_with (fail)
          go_returns
          rw [← hfz.out]
          exact ⟨rfl, hwB.out⟩
        · have gg : (FloatKind.f64.format.order p.2 0 == some .gt || FloatKind.f64.format.order p.2 0 == some .eq) = false := by
            rw [g2, g3]; simp; omega
          obtain ⟨r, hr, hrun⟩ := nm_rot hz (sm_mono hs (by decide))
          have hN : Hid (∃ z, Nm r z ∧ Sm z 16777216 ∧ firstK (4 - (j + 1)) z = firstZ a) := Lib.hid ⟨rotZ z, hr, rot_sm hs, by rw [← hf, firstK, if_neg (fun h => h2 h.2), show 4 - (j + 1) = 3 - j by omega]⟩
          obtain ⟨p1, p2⟩ := p
          clear hz hs hf hQ h1 h2 g2 g3 hr
          go_wp2_with (fail)
          refine ⟨⟨j + 1, r, rfl, by omega, rfl, hN, hw⟩, ?_⟩
          simp [intOf]; omega
      · rw [decide_eq_false h1] at g1
        obtain ⟨r, hr, hrun⟩ := nm_rot hz (sm_mono hs (by decide))
        have hN : Hid (∃ z, Nm r z ∧ Sm z 16777216 ∧ firstK (4 - (j + 1)) z = firstZ a) := Lib.hid ⟨rotZ z, hr, rot_sm hs, by rw [← hf, firstK, if_neg (fun h => h1 h.1), show 4 - (j + 1) = 3 - j by omega]⟩
        obtain ⟨p1, p2⟩ := p
        clear hz hs hf hQ h1 g2 g3 hr
        go_wp2_with (fail)
        refine ⟨⟨j + 1, r, rfl, by omega, rfl, hN, hw⟩, ?_⟩
        simp [intOf]; omega
    · have j4 : ¬ (j : Int) < 4 := by omega
      have hfz : z = firstZ a := by rw [← hf, show 4 - j = 0 by omega]; rfl
      have hc := Lib.hid (fun w => clean_any _ _ _ _ hz.1 hz.2 w)
      obtain ⟨p1, p2⟩ := p
      replace hfz := Lib.hid hfz
      clear hz hs hf hQ
      go_wp2_with (fail)
      refine (hc.out _).mono ?_
      rintro e w2 ⟨rfl, hw_⟩
      have hw_ := hw_.symm
      subst hw_
      go_wp2_with (fail)
      go_returns
      rw [← hfz.out]
      exact ⟨rfl, hwB.out⟩
end Go.Proofs.YtmmfjonoenmplaaDoor
