import Derived.Test.YtmmfjonoenmplaaDoorGaI
namespace Go.Proofs.YtmmfjonoenmplaaDoor
open Go.RowKit Go.Extern.Stop Go.Stop Go.Extern
set_option linter.unusedVariables false
set_option linter.unusedSimpArgs false
/-! the document's Part, Of, Within, Add, Sub, Mul, Norm, near -/
def zV (a : Int × Int) : Value := .agg #[.int .i64 a.1, .int .i64 a.2]
set_option maxRecDepth 100000 in
theorem rpart_any2 (x : Nat) (hx : x < 18446744073709551616) (w : World) : Calls Tryd.prog 46 #[.float .f64 x] w fun e w' => ∃ (n : Int) (ok : Bool), e = .returned (.tuple #[.int .i64 n, .bool ok]) ∧ (n.natAbs ≤ 16777216 ∧ (ok = true ↔ Rt x) ∧ ∀ a, Wd x a → a.natAbs ≤ 16777216 → n = a) ∧ w' = w := by
  have hrt := rt_order (x := x)
  rw [mxW, nmxW] at hrt
  by_cases h1 : Ieee.double.order x x = some .eq
  · have e1 : (FloatKind.f64.format.order x x != some .eq) = false := by rw [f64_double, h1]; rfl
    by_cases h2 : Ieee.double.order x 13938640846711685120 = some .lt
    · have e2 : (FloatKind.f64.format.order x 13938640846711685120 == some .lt) = true := by rw [f64_double, h2]; rfl
      have hno : ¬ Rt x := fun h => (hrt h).2.1 h2
      replace hno := Lib.hid hno
      clear hrt h1 h2
      go_enter Tryd.func46, Tryd.ntmps46
      go_wp2_with (fail)
      go_returns
      exact ⟨0, false, rfl, ⟨by decide, ⟨fun h => absurd h (by decide), fun h => absurd h hno.out⟩, fun a ha hb => absurd ((wd_rt ha).2 hb) hno.out⟩, rfl⟩
    · have e2 : (FloatKind.f64.format.order x 13938640846711685120 == some .lt) = false := by rw [f64_double]; simpa using h2
      by_cases h3 : Ieee.double.order x 4715268809856909312 = some .gt
      · have e3 : (FloatKind.f64.format.order x 4715268809856909312 == some .gt) = true := by rw [f64_double, h3]; rfl
        have hno : ¬ Rt x := fun h => (hrt h).2.2 h3
        replace hno := Lib.hid hno
        clear hrt h1 h2 h3
        go_enter Tryd.func46, Tryd.ntmps46
        go_wp2_with (fail)
        go_returns
        exact ⟨0, false, rfl, ⟨by decide, ⟨fun h => absurd h (by decide), fun h => absurd h hno.out⟩, fun a ha hb => absurd ((wd_rt ha).2 hb) hno.out⟩, rfl⟩
      · have e3 : (FloatKind.f64.format.order x 4715268809856909312 == some .gt) = false := by rw [f64_double]; simpa using h3
        obtain ⟨n, hn1, hn2, hn3, hn4⟩ := part_dec hx h1 (by rw [nmxW]; exact h2) (by rw [mxW]; exact h3)
        have hconv : ∀ w, (convert 22 3 (.float .f64 x)).run Tryd.prog w = .ok (.int .i64 n) w := fun w => by
          refine run_convert_float_int w 22 3 .f64 .i64 x n (by rw [Tryd.underlying22]; rfl) Tryd.underlying3 ?_
          have e : (FloatKind.f64.decode x).toInt .zero = some n := hn1
          unfold floatToIntVal
          rw [e]
          have h1 : IntKind.i64.min ≤ n ∧ n ≤ IntKind.i64.max := by
            have e1 : IntKind.i64.min = -9223372036854775808 := by decide
            have e2 : IntKind.i64.max = 9223372036854775807 := by decide
            rw [e1, e2]; omega
          show (if IntKind.i64.min ≤ n ∧ n ≤ IntKind.i64.max then some n else none) = some n
          rw [if_pos h1]
        have hback := fun w => toFloat_run n (by omega) w
        obtain ⟨ok, hok⟩ : ∃ ok, (FloatKind.f64.format.order (fi n false) x == some .eq) = ok := ⟨_, rfl⟩
        have hokr : ok = true ↔ Rt x := by rw [← hok, f64_double, beq_iff_eq]; exact hn3
        have hfin := Lib.hid (⟨hn2, hokr, fun a ha hb => by obtain ⟨_, s, hs1, hs2⟩ := ha; rw [hn4 s a.natAbs hb hs1, hs2]⟩ : n.natAbs ≤ 16777216 ∧ (ok = true ↔ Rt x) ∧ ∀ a, Wd x a → a.natAbs ≤ 16777216 → n = a)
        clear hrt h1 h2 h3 hn1 hn2 hn3 hn4 hokr
        go_enter Tryd.func46, Tryd.ntmps46
        go_wp2_with (fail)
        go_returns
        exact ⟨n, ok, rfl, hfin.out, rfl⟩
  · have e1 : (FloatKind.f64.format.order x x != some .eq) = true := by rw [f64_double]; simpa using h1
    have hno : ¬ Rt x := fun h => h1 (hrt h).1
    replace hno := Lib.hid hno
    clear hrt h1
    go_enter Tryd.func46, Tryd.ntmps46
    go_wp2_with (fail)
    go_returns
    exact ⟨0, false, rfl, ⟨by decide, ⟨fun h => absurd h (by decide), fun h => absurd h hno.out⟩, fun a ha hb => absurd ((wd_rt ha).2 hb) hno.out⟩, rfl⟩
set_option maxRecDepth 100000 in
theorem radd_any (a b : Int × Int) (ha : Sm a 1125899906842624) (hb : Sm b 1125899906842624) (w : World) : Calls Tryd.prog 23 #[zV a, zV b] w fun e w' => e = .returned (zV (a.1 + b.1, a.2 + b.2)) ∧ Below w.heap.size w w' := by
  obtain ⟨a1, a2⟩ := a
  obtain ⟨b1, b2⟩ := b
  obtain ⟨h1, h2, h3, h4⟩ := ha
  obtain ⟨g1, g2, g3, g4⟩ := hb
  simp only at h1 h2 h3 h4 g1 g2 g3 g4
  unfold zV
  go_enter Tryd.func23, Tryd.ntmps23
  go_wp2_with (fail)
  refine bodyPost_ret (by simp [results, Tryd.results23, go_sem]; rfl) rfl ?_
  exact ⟨rfl, by go_grown⟩
set_option maxRecDepth 100000 in
theorem rsub_any (a b : Int × Int) (ha : Sm a 1125899906842624) (hb : Sm b 1125899906842624) (w : World) : Calls Tryd.prog 24 #[zV a, zV b] w fun e w' => e = .returned (zV (a.1 - b.1, a.2 - b.2)) ∧ Below w.heap.size w w' := by
  obtain ⟨a1, a2⟩ := a
  obtain ⟨b1, b2⟩ := b
  obtain ⟨h1, h2, h3, h4⟩ := ha
  obtain ⟨g1, g2, g3, g4⟩ := hb
  simp only at h1 h2 h3 h4 g1 g2 g3 g4
  unfold zV
  go_enter Tryd.func24, Tryd.ntmps24
  go_wp2_with (fail)
  refine bodyPost_ret (by simp [results, Tryd.results24, go_sem]; rfl) rfl ?_
  exact ⟨rfl, by go_grown⟩
set_option maxRecDepth 100000 in
theorem rmul_any (a b : Int × Int) (ha : Sm a 67108864) (hb : Sm b 16777216) (w : World) : Calls Tryd.prog 25 #[zV a, zV b] w fun e w' => e = .returned (zV (mulZ a b)) ∧ Below w.heap.size w w' := by
  obtain ⟨a1, a2⟩ := a
  obtain ⟨b1, b2⟩ := b
  obtain ⟨h1, h2, h3, h4⟩ := ha
  obtain ⟨g1, g2, g3, g4⟩ := hb
  simp only at h1 h2 h3 h4 g1 g2 g3 g4
  have q1 := prod_le h1 h2 g1 g2
  have q2 := prod_le h3 h4 g3 g4
  have q3 := prod_le h1 h2 g3 g4
  have q4 := prod_le h3 h4 g1 g2
  unfold zV mulZ
  simp only
  obtain ⟨p1, e1⟩ : ∃ p, a1 * b1 = p := ⟨_, rfl⟩
  obtain ⟨p2, e2⟩ : ∃ p, a2 * b2 = p := ⟨_, rfl⟩
  obtain ⟨p3, e3⟩ : ∃ p, a1 * b2 = p := ⟨_, rfl⟩
  obtain ⟨p4, e4⟩ : ∃ p, a2 * b1 = p := ⟨_, rfl⟩
  rw [e1] at q1
  rw [e2] at q2
  rw [e3] at q3
  rw [e4] at q4
  rw [e1, e2, e3, e4]
  obtain ⟨q11, q12⟩ := q1
  obtain ⟨q21, q22⟩ := q2
  obtain ⟨q31, q32⟩ := q3
  obtain ⟨q41, q42⟩ := q4
  go_enter Tryd.func25, Tryd.ntmps25
  go_wp2_with (fail)
  refine bodyPost_ret (by simp [results, Tryd.results25, go_sem]; rfl) rfl ?_
  exact ⟨by simp, by go_grown⟩
set_option maxRecDepth 100000 in
theorem rwithin_any (a : Int × Int) (w : World) : Calls Tryd.prog 52 #[zV a] w fun e w' => e = .returned (.bool (decide (a.1.natAbs ≤ 16777216 ∧ a.2.natAbs ≤ 16777216))) ∧ Below w.heap.size w w' := by
  obtain ⟨a1, a2⟩ := a
  simp only
  obtain ⟨r, hr⟩ : ∃ r, decide (a1.natAbs ≤ 16777216 ∧ a2.natAbs ≤ 16777216) = r := ⟨_, rfl⟩
  rw [hr]
  unfold zV
  rcases (by omega : a1 < -16777216 ∨ -16777216 ≤ a1 ∧ 16777216 < a1 ∨ -16777216 ≤ a1 ∧ a1 ≤ 16777216 ∧ a2 < -16777216 ∨ -16777216 ≤ a1 ∧ a1 ≤ 16777216 ∧ -16777216 ≤ a2 ∧ 16777216 < a2 ∨ -16777216 ≤ a1 ∧ a1 ≤ 16777216 ∧ -16777216 ≤ a2 ∧ a2 ≤ 16777216) with m1 | ⟨m1, m2⟩ | ⟨m1, m2, m3⟩ | ⟨m1, m2, m3, m4⟩ | ⟨m1, m2, m3, m4⟩
  rotate_right
  · obtain rfl : r = true := by rw [← hr]; exact decide_eq_true (by omega)
    clear hr
    go_enter Tryd.func52, Tryd.ntmps52
    go_wp2_with (fail)
    go_returns
    exact ⟨rfl, by go_grown⟩
  all_goals (
    obtain rfl : r = false := by rw [← hr]; exact decide_eq_false (by omega)
    clear hr
    go_enter Tryd.func52, Tryd.ntmps52
    go_wp2_with (fail)
    go_returns
    refine ⟨?_, by go_grown⟩
    first | rfl | (simp; omega))
set_option maxRecDepth 100000 in
theorem rof_any (x : Nat × Nat) (lx : x.1 < 18446744073709551616 ∧ x.2 < 18446744073709551616) (w : World) : Calls Tryd.prog 14 #[.float .f64 x.1, .float .f64 x.2] w fun e w' => ∃ (z : Int × Int) (ok : Bool), e = .returned (.tuple #[zV z, .bool ok]) ∧ (Sm z 16777216 ∧ (ok = true ↔ Rt x.1 ∧ Rt x.2) ∧ ∀ a, Nm x a → Sm a 16777216 → z = a) ∧ Below w.heap.size w w' := by
  obtain ⟨x1, x2⟩ := x
  have p1 := Lib.hid (fun w => rpart_any2 x1 lx.1 w)
  have p2 := Lib.hid (fun w => rpart_any2 x2 lx.2 w)
  clear lx
  unfold zV
  go_enter Tryd.func14, Tryd.ntmps14
  go_wp2_with (fail)
  refine (p1.out _).mono ?_
  rintro e w1 ⟨n1, k1, rfl, h1, hw_⟩
  have hw_ := hw_.symm
  subst hw_
  replace h1 := Lib.hid h1
  go_wp2_with (fail)
  refine (p2.out _).mono ?_
  rintro e w1 ⟨n2, k2, rfl, h2, hw_⟩
  have hw_ := hw_.symm
  subst hw_
  replace h2 := Lib.hid h2
  have hfin : Hid ((n1.natAbs ≤ 16777216 ∧ n2.natAbs ≤ 16777216) ∧ ∀ a, Nm (x1, x2) a → Sm a 16777216 → (n1, n2) = a) := Lib.hid ⟨⟨h1.out.1, h2.out.1⟩, fun a ha hs => by
    obtain ⟨a1, a2⟩ := a
    unfold Sm at hs
    rw [h1.out.2.2 a1 ha.1 (by simp only at hs; omega), h2.out.2.2 a2 ha.2 (by simp only at hs; omega)]⟩
  cases k1
  · go_wp2_with (fail)
    refine bodyPost_ret (by simp [results, Tryd.results14, go_sem]; rfl) rfl ?_
    refine ⟨(n1, n2), false, by simp, ⟨?_, ⟨fun h => absurd h (by decide), fun h => absurd (h1.out.2.1.2 h.1) (by decide)⟩, hfin.out.2⟩, by go_grown⟩
    have := hfin.out.1
    unfold Sm; simp only; omega
  · go_wp2_with (fail)
    refine bodyPost_ret (by simp [results, Tryd.results14, go_sem]; rfl) rfl ?_
    refine ⟨(n1, n2), k2, by simp, ⟨?_, ⟨fun h => ⟨h1.out.2.1.1 (by trivial), h2.out.2.1.1 h⟩, fun h => h2.out.2.1.2 h.2⟩, hfin.out.2⟩, by go_grown⟩
    have := hfin.out.1
    unfold Sm; simp only; omega
/-! the law's helpers -/
theorem fi_zero : fi 0 false = 0 := by decide +kernel
theorem div_zero_inf (t : TypeId) (w : World) : (binOp .quo t (.float .f64 4607182418800017408) (.float .f64 0)).run Tryd.prog w = .ok (.float .f64 9218868437227405312) w := run_float_arith w .quo t .f64 _ _ _ (by decide +kernel)
theorem inf_gt : (FloatKind.f64.format.order 9218868437227405312 0 == some .gt) = true := by decide +kernel
set_option maxRecDepth 100000 in
theorem flat_ok (z : Int) (h : z.natAbs < 9007199254740992) (w : World) : Calls Tryd.prog 54 #[.float .f64 (fi z false)] w fun e w' => e = .returned (.bool true) ∧ w' = w := by
  have e1 := eq_zero (wd_fi z false h)
  by_cases h0 : z = 0
  · subst h0
    rw [fi_zero] at e1 ⊢
    have e2 : (FloatKind.f64.format.order 0 0 != some .eq) = false := by decide +kernel
    have e3 := fun t w => div_zero_inf t w
    have e4 := inf_gt
    clear e1
    go_enter Tryd.func54, Tryd.ntmps54
    go_wp2_with (fail)
    go_returns
    exact ⟨rfl, rfl⟩
  · rw [decide_eq_false h0] at e1
    obtain ⟨x, hx⟩ : ∃ x, fi z false = x := ⟨_, rfl⟩
    rw [hx] at e1 ⊢
    have e2 : (FloatKind.f64.format.order x 0 != some .eq) = true := by simpa [bne] using e1
    clear e1 hx
    go_enter Tryd.func54, Tryd.ntmps54
    go_wp2_with (fail)
    go_returns
    exact ⟨rfl, rfl⟩
theorem fi_self (z : Int) (h : z.natAbs < 9007199254740992) : (FloatKind.f64.format.order (fi z false) (fi z false) == some .eq) = true := by
  have : FloatKind.f64.format.order (fi z false) (fi z false) = some (compare z z) := wd_order (wd_fi z false h) (wd_fi z false h)
  rw [this, cmp_eq.2 rfl]; rfl
set_option maxRecDepth 100000 in
theorem is_ok (a : Int × Int) (h : Sm a 1125899906842624) (w : World) : Calls Tryd.prog 30 #[cw a, zV a] w fun e w' => e = .returned (.bool true) ∧ Below w.heap.size w w' := by
  obtain ⟨a1, a2⟩ := a
  unfold Sm at h
  simp only at h
  have f1 := Lib.hid (fun w => flat_ok a1 (by omega) w)
  have f2 := Lib.hid (fun w => flat_ok a2 (by omega) w)
  have s1 := fi_self a1 (by omega)
  have s2 := fi_self a2 (by omega)
  have v1 := fun w => toFloat_run a1 (by omega) w
  have v2 := fun w => toFloat_run a2 (by omega) w
  unfold cw zV
  simp only
  obtain ⟨x1, hx1⟩ : ∃ x, fi a1 false = x := ⟨_, rfl⟩
  obtain ⟨x2, hx2⟩ : ∃ x, fi a2 false = x := ⟨_, rfl⟩
  rw [hx1] at f1 s1 ⊢
  rw [hx2] at f2 s2 ⊢
  simp only [hx1] at v1
  simp only [hx2] at v2
  clear hx1 hx2 h
  go_enter Tryd.func30, Tryd.ntmps30
  go_wp2_with (fail)
  refine (f1.out _).mono ?_
  rintro e w1 ⟨rfl, hw_⟩
  have hw_ := hw_.symm
  subst hw_
  go_wp2_with (fail)
  refine (f2.out _).mono ?_
  rintro e w1 ⟨rfl, hw_⟩
  have hw_ := hw_.symm
  subst hw_
  go_wp2_with (fail)
  go_returns
  exact ⟨rfl, by go_grown⟩
set_option maxRecDepth 100000 in
theorem answers_ok (a : Int × Int) (h : Sm a 1125899906842624) (w : World) : Calls Tryd.prog 17 #[cw a, .int .i64 0, zV a, .int .i64 0] w fun e w' => e = .returned (.bool true) ∧ Below w.heap.size w w' := by
  have hi := Lib.hid (fun w => is_ok a h w)
  obtain ⟨a1, a2⟩ := a
  unfold cw zV at hi ⊢
  simp only at hi ⊢
  clear h
  go_enter Tryd.func17, Tryd.ntmps17
  go_wp2_with (fail)
  have hB := (Below.refl w.heap.size w).alloc (Nat.le_refl _) (.cells #[.int .i64 a1, .int .i64 a2] 25)
  refine (hi.out _).mono ?_
  rintro e w1 ⟨rfl, hb⟩
  replace hB := hB.trans (hb.mono hB.size)
  clear hb
  go_wp2_with (fail)
  go_returns
  exact ⟨rfl, hB⟩
set_option maxRecDepth 100000 in
theorem answers_err (a : Int × Int) (k : Int) (hk : k ≠ 0) (w : World) : Calls Tryd.prog 17 #[.complex .f64 0 0, .int .i64 k, zV a, .int .i64 k] w fun e w' => e = .returned (.bool true) ∧ Below w.heap.size w w' := by
  have hi := Lib.hid (fun w => is_ok (0, 0) (by unfold Sm; decide) w)
  have hk0 : (k == 0) = false := by simpa using hk
  have hk1 : (k != 0) = true := by simpa using hk
  obtain ⟨a1, a2⟩ := a
  unfold cw zV at hi
  unfold zV
  simp only [fi_zero] at hi ⊢
  clear hk
  go_enter Tryd.func17, Tryd.ntmps17
  go_wp2_with (fail)
  have hB := (Below.refl w.heap.size w).alloc (Nat.le_refl _) (.cells #[.int .i64 a1, .int .i64 a2] 25)
  refine (hi.out _).mono ?_
  rintro e w1 ⟨rfl, hb⟩
  replace hB := hB.trans (hb.mono hB.size)
  clear hb
  go_wp2_with (fail)
  go_returns
  exact ⟨rfl, hB⟩
/-- the errno of a result -/
def rangedV (a : Int × Int) : Int := if a.1.natAbs ≤ 16777216 ∧ a.2.natAbs ≤ 16777216 then 0 else 8
set_option maxRecDepth 100000 in
theorem ranged_any (a : Int × Int) (w : World) : Calls Tryd.prog 26 #[zV a] w fun e w' => e = .returned (.int .i64 (rangedV a)) ∧ Below w.heap.size w w' := by
  have hi := Lib.hid (fun w => rwithin_any a w)
  obtain ⟨a1, a2⟩ := a
  unfold rangedV
  unfold zV at hi ⊢
  simp only at hi ⊢
  by_cases hin : a1.natAbs ≤ 16777216 ∧ a2.natAbs ≤ 16777216
  · rw [if_pos hin]
    rw [decide_eq_true hin] at hi
    clear hin
    go_enter Tryd.func26, Tryd.ntmps26
    go_wp2_with (fail)
    have hB := (Below.refl w.heap.size w).alloc (Nat.le_refl _) (.cells #[.int .i64 a1, .int .i64 a2] 25)
    refine (hi.out _).mono ?_
    rintro e w1 ⟨rfl, hb⟩
    replace hB := hB.trans (hb.mono hB.size)
    clear hb
    go_wp2_with (fail)
    go_returns
    exact ⟨rfl, hB⟩
  · rw [if_neg hin]
    rw [decide_eq_false hin] at hi
    clear hin
    go_enter Tryd.func26, Tryd.ntmps26
    go_wp2_with (fail)
    have hB := (Below.refl w.heap.size w).alloc (Nat.le_refl _) (.cells #[.int .i64 a1, .int .i64 a2] 25)
    refine (hi.out _).mono ?_
    rintro e w1 ⟨rfl, hb⟩
    replace hB := hB.trans (hb.mono hB.size)
    clear hb
    go_wp2_with (fail)
    go_returns
    exact ⟨rfl, hB⟩
end Go.Proofs.YtmmfjonoenmplaaDoor
