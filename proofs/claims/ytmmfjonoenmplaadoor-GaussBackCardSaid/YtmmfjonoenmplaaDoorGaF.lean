import Derived.Test.YtmmfjonoenmplaaDoorGaE
namespace Go.Proofs.YtmmfjonoenmplaaDoor
open Go.RowKit Go.Extern.Stop Go.Stop Go.Extern
set_option linter.unusedVariables false
set_option linter.unusedSimpArgs false
/-! gauss.Div, First -/
theorem errNe (w : World) : (binOp BinOp.neq 72 errArg .nilIface).run Tryd.prog w = .ok (.bool true) w := by kernel_rfl
theorem nilNe (w : World) : (binOp BinOp.neq 72 .nilIface .nilIface).run Tryd.prog w = .ok (.bool false) w := by kernel_rfl
set_option maxRecDepth 100000 in
theorem div_bad (x y : Nat × Nat) (lx : x.1 < 18446744073709551616 ∧ x.2 < 18446744073709551616) (ly : y.1 < 18446744073709551616 ∧ y.2 < 18446744073709551616) (hno : ¬ ((Rt x.1 ∧ Rt x.2) ∧ (Rt y.1 ∧ Rt y.2))) (w : World) : Calls Tryd.prog 15 #[.complex .f64 x.1 x.2, .complex .f64 y.1 y.2] w fun e w' => e = .returned (.tuple #[.complex .f64 0 0, .complex .f64 0 0, .int .i64 1]) ∧ Below w.heap.size w w' := by
  obtain ⟨x1, x2⟩ := x
  obtain ⟨y1, y2⟩ := y
  have has := Lib.hid (fun (w : World) (g : Nat) (c0 : w.cell? ⟨g, 0, none⟩ = some (.complex .f64 x1 x2)) (c1 : w.cell? ⟨g, 1, none⟩ = some (.complex .f64 y1 y2)) => asked2 (x1, x2) (y1, y2) w g c0 c1 lx ly)
  replace hno := Lib.hid hno
  have hne := errNe
  unfold errArg at hne
  clear lx ly
  go_enter Tryd.func15, Tryd.ntmps15
  go_wp2_with (fail)
  have hB := (Below.refl w.heap.size w).alloc (Nat.le_refl _) (.cells #[.complex .f64 x1 x2, .complex .f64 y1 y2] 28)
  have hK := Bk.fresh w 28 #[.complex .f64 x1 x2, .complex .f64 y1 y2]
  obtain ⟨X, hX⟩ : ∃ X, w.alloc (.cells #[.complex .f64 x1 x2, .complex .f64 y1 y2] 28) = X := ⟨_, rfl⟩
  rw [hX] at hB hK ⊢
  refine (has.out X _ (hK.cell 0) (hK.cell 1)).mono ?_
  rintro e w1 ⟨v, rfl, hv, n, hn_⟩
  have hn_ := hn_.symm
  subst hn_
  obtain rfl : v = errArg := by
    rcases hv with h | h
    · exact absurd ⟨h.1, h.2.1⟩ hno.out
    · exact h.2
  clear hv
  have hB2 : Below w.heap.size w (X.drewN n) := hB.trans ⟨rfl, rfl, rfl, Nat.le_refl _, fun _ _ => rfl⟩
  clear hB hK
  unfold errArg
  go_wp2_with (fail)
  go_returns
  exact ⟨rfl, hB2⟩
set_option maxRecDepth 100000 in
theorem div_zero (x y : Nat × Nat) (a : Int × Int) (hx : Nm x a) (hy : Nm y (0, 0)) (ha : Sm a 16777216) (w : World) : Calls Tryd.prog 15 #[.complex .f64 x.1 x.2, .complex .f64 y.1 y.2] w fun e w' => e = .returned (.tuple #[.complex .f64 0 0, .complex .f64 0 0, .int .i64 9]) ∧ Below w.heap.size w w' := by
  obtain ⟨x1, x2⟩ := x
  obtain ⟨y1, y2⟩ := y
  have hrx := (nm_rt hx).2 ha
  have hry := (nm_rt hy).2 (by unfold Sm; decide)
  have lx := nm_lt hx
  have ly := nm_lt hy
  have z1 := eq_zero hy.1
  have z2 := eq_zero hy.2
  simp only [decide_true] at z1 z2
  have has := Lib.hid (fun (w : World) (g : Nat) (c0 : w.cell? ⟨g, 0, none⟩ = some (.complex .f64 x1 x2)) (c1 : w.cell? ⟨g, 1, none⟩ = some (.complex .f64 y1 y2)) => asked2 (x1, x2) (y1, y2) w g c0 c1 lx ly)
  have hne := nilNe
  replace hrx := Lib.hid hrx
  replace hry := Lib.hid hry
  clear lx ly hx hy ha
  go_enter Tryd.func15, Tryd.ntmps15
  go_wp2_with (fail)
  have hB := (Below.refl w.heap.size w).alloc (Nat.le_refl _) (.cells #[.complex .f64 x1 x2, .complex .f64 y1 y2] 28)
  have hK := Bk.fresh w 28 #[.complex .f64 x1 x2, .complex .f64 y1 y2]
  obtain ⟨X, hX⟩ : ∃ X, w.alloc (.cells #[.complex .f64 x1 x2, .complex .f64 y1 y2] 28) = X := ⟨_, rfl⟩
  rw [hX] at hB hK ⊢
  refine (has.out X _ (hK.cell 0) (hK.cell 1)).mono ?_
  rintro e w1 ⟨v, rfl, hv, n, hn_⟩
  have hn_ := hn_.symm
  subst hn_
  obtain rfl : v = .nilIface := by
    rcases hv with h | h
    · exact h.2.2
    · exact absurd ⟨hrx.out, hry.out⟩ h.1
  clear hv
  have hB2 : Below w.heap.size w (X.drewN n) := hB.trans ⟨rfl, rfl, rfl, Nat.le_refl _, fun _ _ => rfl⟩
  clear hB hK
  go_wp2_with (fail)
  go_returns
  exact ⟨rfl, hB2⟩
set_option maxRecDepth 100000 in
set_option maxHeartbeats 2000000 in
theorem div_ok (x y : Nat × Nat) (a b : Int × Int) (hx : Nm x a) (hy : Nm y b) (ha : Sm a 16777216) (hb : Sm b 16777216) (h0 : b ≠ (0, 0)) (w : World) : Calls Tryd.prog 15 #[.complex .f64 x.1 x.2, .complex .f64 y.1 y.2] w fun e w' => e = .returned (.tuple #[cw (divQ a b), cw (divR a b), .int .i64 0]) ∧ Below w.heap.size w w' := by
  have hrx := (nm_rt hx).2 ha
  have hry := (nm_rt hy).2 hb
  have lx := nm_lt hx
  have ly := nm_lt hy
  have hyc : Nm (y.1, Op.negFloat .f64 y.2) (conjZ b) := ⟨hy.1, wd_neg hy.2⟩
  have hbc : Sm (conjZ b) 16777216 := by unfold Sm conjZ at *; simp only at *; omega
  obtain ⟨X1, hX1, rX⟩ := nm_mul hx hyc (sm_mono ha (by decide)) hbc 28
  have hq := divQ_le (by decide) ha h0
  have hr := divR_sm (a := a) h0 hb
  have hqw := nm_cw (divQ a b) (sm_mono hq (by decide))
  obtain ⟨P, hP, rP⟩ := nm_mul hqw hy (sm_mono hq (by decide)) hb 28
  have hPs : Sm (mulZ (divQ a b) b) 1125899906842624 := by
    obtain ⟨q1, q2, q3, q4⟩ := hq
    obtain ⟨b1, b2, b3, b4⟩ := hb
    have p1 := prod_le q1 q2 b1 b2
    have p2 := prod_le q3 q4 b3 b4
    have p3 := prod_le q1 q2 b3 b4
    have p4 := prod_le q3 q4 b1 b2
    unfold Sm mulZ
    simp only
    omega
  obtain ⟨R, hR, rR⟩ := nm_sub hx hP (sm_mono ha (by decide)) hPs 28
  have hn := norm_pos h0
  have hnl := norm_le hb
  have hn2 : normZ b ≤ 1125899906842624 := by unfold normZ; omega
  have hM : Sm (mulZ a (conjZ b)) 1125899906842624 := by
    obtain ⟨q1, q2, q3, q4⟩ := ha
    obtain ⟨b1, b2, b3, b4⟩ := hbc
    have p1 := prod_le q1 q2 b1 b2
    have p2 := prod_le q3 q4 b3 b4
    have p3 := prod_le q1 q2 b3 b4
    have p4 := prod_le q3 q4 b1 b2
    unfold Sm mulZ
    simp only
    omega
  have i1 := fun w => toInt_run hX1.1 w
  have i2 := fun w => toInt_run hX1.2 w
  have f1 := fun w => toFloat_run (divQ a b).1 (by unfold Sm at hq; omega) w
  have f2 := fun w => toFloat_run (divQ a b).2 (by unfold Sm at hq; omega) w
  have n1 := fun w => near_any (mulZ a (conjZ b)).1 (normZ b) hn hn2 hM.1 hM.2.1 w
  have n2 := fun w => near_any (mulZ a (conjZ b)).2 (normZ b) hn hn2 hM.2.2.1 hM.2.2.2 w
  have k1 := fun w => clean_any _ _ _ _ hqw.1 hqw.2 w
  have k2 := fun w => clean_any _ _ _ _ hR.1 hR.2 w
  have hnm := fun w => norm_ok y b hy hb w
  change ∀ w, Calls Tryd.prog 48 #[.int .i64 (mulZ a (conjZ b)).1, .int .i64 (normZ b)] w fun e w' => e = .returned (.int .i64 (divQ a b).1) ∧ ∃ k, w' = w.drewN k at n1
  change ∀ w, Calls Tryd.prog 48 #[.int .i64 (mulZ a (conjZ b)).2, .int .i64 (normZ b)] w fun e w' => e = .returned (.int .i64 (divQ a b).2) ∧ ∃ k, w' = w.drewN k at n2
  change ∀ w, Calls Tryd.prog 49 #[.complex .f64 R.1 R.2] w fun e w' => e = .returned (cw (divR a b)) ∧ w' = w at k2
  change ∀ w, (convert 22 3 (.float .f64 X1.1)).run Tryd.prog w = .ok (.int .i64 (mulZ a (conjZ b)).1) w at i1
  change ∀ w, (convert 22 3 (.float .f64 X1.2)).run Tryd.prog w = .ok (.int .i64 (mulZ a (conjZ b)).2) w at i2
  have hz : (b.1 ≠ 0) ∨ (b.1 = 0 ∧ b.2 ≠ 0) := by
    by_cases h : b.1 = 0
    · exact .inr ⟨h, fun h2 => h0 (Prod.ext h h2)⟩
    · exact .inl h
  have z1 := eq_zero hy.1
  have z2 := eq_zero hy.2
  unfold cw at k2 ⊢
  obtain ⟨q1, hq1⟩ : ∃ q, (divQ a b).1 = q := ⟨_, rfl⟩
  obtain ⟨q2, hq2⟩ : ∃ q, (divQ a b).2 = q := ⟨_, rfl⟩
  obtain ⟨m1, hm1⟩ : ∃ q, (mulZ a (conjZ b)).1 = q := ⟨_, rfl⟩
  obtain ⟨m2, hm2⟩ : ∃ q, (mulZ a (conjZ b)).2 = q := ⟨_, rfl⟩
  obtain ⟨nn, hnn⟩ : ∃ q, normZ b = q := ⟨_, rfl⟩
  obtain ⟨r1, hr1⟩ : ∃ q, (divR a b).1 = q := ⟨_, rfl⟩
  obtain ⟨r2, hr2⟩ : ∃ q, (divR a b).2 = q := ⟨_, rfl⟩
  simp only [hq1, hq2, hm1, hm2, hnn, hr1, hr2] at i1 i2 f1 f2 n1 n2 k1 k2 hnm rX rP rR ⊢
  obtain ⟨x1, x2⟩ := x
  obtain ⟨y1, y2⟩ := y
  have has := Lib.hid (fun (w : World) (g : Nat) (c0 : w.cell? ⟨g, 0, none⟩ = some (.complex .f64 x1 x2)) (c1 : w.cell? ⟨g, 1, none⟩ = some (.complex .f64 y1 y2)) => asked2 (x1, x2) (y1, y2) w g c0 c1 lx ly)
  have hne := nilNe
  have hneg := fun w => neg_run y2 w
  replace hrx := Lib.hid hrx
  replace hry := Lib.hid hry
  replace n1 := Lib.hid n1
  replace n2 := Lib.hid n2
  replace k1 := Lib.hid k1
  replace k2 := Lib.hid k2
  replace hnm := Lib.hid hnm
  have hzz : ((FloatKind.f64.format.order y1 0 == some .eq) = false) ∨ ((FloatKind.f64.format.order y1 0 == some .eq) = true ∧ (FloatKind.f64.format.order y2 0 == some .eq) = false) := by
    rw [z1, z2]
    rcases hz with h | ⟨h, h'⟩
    · exact .inl (decide_eq_false h)
    · exact .inr ⟨decide_eq_true h, decide_eq_false h'⟩
  clear lx ly hx hy ha hb hyc hbc hX1 hq hr hqw hP hPs hR hn hnl hn2 hM hz z1 z2 h0 hq1 hq2 hm1 hm2 hnn hr1 hr2
  rcases hzz with z1 | ⟨z1, z2⟩
  all_goals (
    go_enter Tryd.func15, Tryd.ntmps15
    go_wp2_with (fail)
    have hB := (Below.refl w.heap.size w).alloc (Nat.le_refl _) (.cells #[.complex .f64 x1 x2, .complex .f64 y1 y2] 28)
    have hK := Bk.fresh w 28 #[.complex .f64 x1 x2, .complex .f64 y1 y2]
    obtain ⟨X, hX⟩ : ∃ X, w.alloc (.cells #[.complex .f64 x1 x2, .complex .f64 y1 y2] 28) = X := ⟨_, rfl⟩
    rw [hX] at hB hK ⊢
    refine (has.out X _ (hK.cell 0) (hK.cell 1)).mono ?_
    rintro e w1 ⟨v, rfl, hv, n, hn_⟩
    have hn_ := hn_.symm
    subst hn_
    obtain rfl : v = .nilIface := by
      rcases hv with h | h
      · exact h.2.2
      · exact absurd ⟨hrx.out, hry.out⟩ h.1
    clear hv
    have hB2 : Below w.heap.size w (X.drewN n) := hB.trans ⟨rfl, rfl, rfl, Nat.le_refl _, fun _ _ => rfl⟩
    clear hB hK
    go_wp2_with (fail)
    refine (hnm.out _).mono ?_
    rintro e w2 ⟨rfl, s1, hn_⟩
    have hn_ := hn_.symm
    subst hn_
    go_wp2_with (fail)
    refine (n1.out _).mono ?_
    rintro e w2 ⟨rfl, s2, hn_⟩
    have hn_ := hn_.symm
    subst hn_
    go_wp2_with (fail)
    refine (n2.out _).mono ?_
    rintro e w2 ⟨rfl, s3, hn_⟩
    have hn_ := hn_.symm
    subst hn_
    go_wp2_with (fail)
    refine (k1.out _).mono ?_
    rintro e w2 ⟨rfl, hw_⟩
    have hw_ := hw_.symm
    subst hw_
    go_wp2_with (fail)
    refine (k2.out _).mono ?_
    rintro e w2 ⟨rfl, hw_⟩
    have hw_ := hw_.symm
    subst hw_
    go_wp2_with (fail)
    go_returns
    exact ⟨rfl, hB2.trans ⟨rfl, rfl, rfl, Nat.le_refl _, fun _ _ => rfl⟩⟩)
end Go.Proofs.YtmmfjonoenmplaaDoor
