import Derived.Test.YtmmfjonoenmplaaDoorGaC
namespace Go.Proofs.YtmmfjonoenmplaaDoor
open Go.RowKit Go.Extern.Stop Go.Stop Go.Extern
set_option linter.unusedVariables false
set_option linter.unusedSimpArgs false
/-! gauss.Conj, Parts, Norm, near, Of -/
theorem toInt_run {x : Nat} {a : Int} (hx : Wd x a) (w : World) : (convert 22 3 (.float .f64 x)).run Tryd.prog w = .ok (.int .i64 a) w := by
  refine run_convert_float_int w 22 3 .f64 .i64 x a (by rw [Tryd.underlying22]; rfl) Tryd.underlying3 ?_
  have h := wd_toInt hx
  have e : (FloatKind.f64.decode x).toInt .zero = some a := h
  have hb := hx.1
  unfold floatToIntVal
  rw [e]
  have h1 : IntKind.i64.min ≤ a ∧ a ≤ IntKind.i64.max := by
    have e1 : IntKind.i64.min = -9223372036854775808 := by decide
    have e2 : IntKind.i64.max = 9223372036854775807 := by decide
    rw [e1, e2]; omega
  show (if IntKind.i64.min ≤ a ∧ a ≤ IntKind.i64.max then some a else none) = some a
  rw [if_pos h1]
theorem toFloat_run (a : Int) (h : a.natAbs < 9007199254740992) (w : World) : (convert 3 22 (.int .i64 a)).run Tryd.prog w = .ok (.float .f64 (fi a false)) w := by
  rw [run_convert_int_float w 3 22 .i64 .f64 a (by rw [Tryd.underlying3]; rfl) Tryd.underlying22, wd_int a h]
theorem neg_run (x : Nat) (w : World) : (Op.unary .neg (.float .f64 x)).run Tryd.prog w = .ok (.float .f64 (Op.negFloat .f64 x)) w := rfl
set_option maxRecDepth 100000 in
theorem conj_ok (x : Nat × Nat) (a : Int × Int) (hx : Nm x a) (ha : Sm a 16777216) (w : World) : Calls Tryd.prog 31 #[.complex .f64 x.1 x.2] w fun e w' => e = .returned (res (a.1, -a.2)) ∧ Below w.heap.size w w' := by
  obtain ⟨x1, x2⟩ := x
  have hrx := (nm_rt hx).2 ha
  have lx := nm_lt hx
  have ht := fun w => told_nil _ _ _ _ hx.1 (wd_neg hx.2) w
  have has := Lib.hid (fun (w : World) (g : Nat) (c0 : w.cell? ⟨g, 0, none⟩ = some (.complex .f64 x1 x2)) => asked1 (x1, x2) w g c0 lx)
  replace ht := Lib.hid ht
  replace hrx := Lib.hid hrx
  clear hx ha lx
  have hneg := fun w => neg_run x2 w
  go_enter Tryd.func31, Tryd.ntmps31
  go_wp2_with (fail)
  have hB := (Below.refl w.heap.size w).alloc (Nat.le_refl _) (.cells #[.complex .f64 x1 x2] 28)
  have hK := Bk.fresh w 28 #[.complex .f64 x1 x2]
  obtain ⟨X, hX⟩ : ∃ X, w.alloc (.cells #[.complex .f64 x1 x2] 28) = X := ⟨_, rfl⟩
  rw [hX] at hB hK ⊢
  refine (has.out X _ (hK.cell 0)).mono ?_
  rintro e w1 ⟨v, rfl, hv, n, hn_⟩
  have hn_ := hn_.symm
  subst hn_
  obtain rfl : v = .nilIface := by
    rcases hv with h | h
    · exact h.2
    · exact absurd hrx.out h.1
  clear hv
  have hB2 : Below w.heap.size w (X.drewN n) := hB.trans ⟨rfl, rfl, rfl, Nat.le_refl _, fun _ _ => rfl⟩
  clear hB hK
  go_wp2_with (fail)
  refine (ht.out _).mono ?_
  rintro e w2 ⟨rfl, n2, hn_⟩
  have hB3 : Below w.heap.size w w2 := by rw [hn_]; exact hB2.trans ⟨rfl, rfl, rfl, Nat.le_refl _, fun _ _ => rfl⟩
  clear hn_ hB2
  obtain ⟨v, q, hvq⟩ := toldV_form a.1 (-a.2)
  rw [hvq]
  go_wp2_with (fail)
  go_returns
  refine ⟨?_, hB3⟩
  unfold res
  rw [hvq]
  rfl
set_option maxRecDepth 100000 in
theorem conj_bad (x : Nat × Nat) (lx : x.1 < 18446744073709551616 ∧ x.2 < 18446744073709551616) (hno : ¬ (Rt x.1 ∧ Rt x.2)) (w : World) : Calls Tryd.prog 31 #[.complex .f64 x.1 x.2] w fun e w' => e = .returned bad ∧ Below w.heap.size w w' := by
  obtain ⟨x1, x2⟩ := x
  have has := Lib.hid (fun (w : World) (g : Nat) (c0 : w.cell? ⟨g, 0, none⟩ = some (.complex .f64 x1 x2)) => asked1 (x1, x2) w g c0 lx)
  have hta := Lib.hid (fun v w => told_arg v w)
  replace hno := Lib.hid hno
  clear lx
  unfold errArg at hta
  have hneg := fun w => neg_run x2 w
  go_enter Tryd.func31, Tryd.ntmps31
  go_wp2_with (fail)
  have hB := (Below.refl w.heap.size w).alloc (Nat.le_refl _) (.cells #[.complex .f64 x1 x2] 28)
  have hK := Bk.fresh w 28 #[.complex .f64 x1 x2]
  obtain ⟨X, hX⟩ : ∃ X, w.alloc (.cells #[.complex .f64 x1 x2] 28) = X := ⟨_, rfl⟩
  rw [hX] at hB hK ⊢
  refine (has.out X _ (hK.cell 0)).mono ?_
  rintro e w1 ⟨v, rfl, hv, n, hn_⟩
  have hn_ := hn_.symm
  subst hn_
  obtain rfl : v = errArg := by
    rcases hv with h | h
    · exact absurd h.1 hno.out
    · exact h.2
  clear hv
  have hB2 : Below w.heap.size w (X.drewN n) := hB.trans ⟨rfl, rfl, rfl, Nat.le_refl _, fun _ _ => rfl⟩
  clear hB hK
  unfold errArg
  go_wp2_with (fail)
  refine (hta.out _ _).mono ?_
  rintro e w2 ⟨rfl, hw_⟩
  have hw_ := hw_.symm
  subst hw_
  go_wp2_with (fail)
  go_returns
  exact ⟨rfl, hB2⟩
set_option maxRecDepth 100000 in
theorem parts_ok (x : Nat × Nat) (a : Int × Int) (hx : Nm x a) (ha : Sm a 16777216) (w : World) : Calls Tryd.prog 27 #[.complex .f64 x.1 x.2] w fun e w' => e = .returned (.tuple #[.int .i64 a.1, .int .i64 a.2, .int .i64 0]) ∧ ∃ n, w' = w.drewN n := by
  obtain ⟨x1, x2⟩ := x
  have hrx := (nm_rt hx).2 ha
  have lx := nm_lt hx
  have hr := Lib.hid (fun w => right_any x1 x2 lx.1 lx.2 w)
  have v1 := fun w => toInt_run hx.1 w
  have v2 := fun w => toInt_run hx.2 w
  replace hrx := Lib.hid hrx
  clear hx ha lx
  go_enter Tryd.func27, Tryd.ntmps27
  go_wp2_with (fail)
  refine (hr.out _).mono ?_
  rintro e w1 ⟨r, rfl, hr1, n, hn_⟩
  have hn_ := hn_.symm
  subst hn_
  obtain rfl : r = true := hr1.2 hrx.out
  clear hr1
  go_wp2_with (fail)
  go_returns
  exact ⟨rfl, n, rfl⟩
set_option maxRecDepth 100000 in
theorem parts_bad (x : Nat × Nat) (lx : x.1 < 18446744073709551616 ∧ x.2 < 18446744073709551616) (hno : ¬ (Rt x.1 ∧ Rt x.2)) (w : World) : Calls Tryd.prog 27 #[.complex .f64 x.1 x.2] w fun e w' => e = .returned (.tuple #[.int .i64 0, .int .i64 0, .int .i64 1]) ∧ ∃ n, w' = w.drewN n := by
  obtain ⟨x1, x2⟩ := x
  have hr := Lib.hid (fun w => right_any x1 x2 lx.1 lx.2 w)
  replace hno := Lib.hid hno
  clear lx
  go_enter Tryd.func27, Tryd.ntmps27
  go_wp2_with (fail)
  refine (hr.out _).mono ?_
  rintro e w1 ⟨r, rfl, hr1, n, hn_⟩
  have hn_ := hn_.symm
  subst hn_
  obtain rfl : r = false := by
    cases r
    · rfl
    · exact absurd (hr1.1 rfl) hno.out
  clear hr1
  go_wp2_with (fail)
  go_returns
  exact ⟨rfl, n, rfl⟩
def normZ (a : Int × Int) : Int := a.1 * a.1 + a.2 * a.2
theorem norm_le {a : Int × Int} (ha : Sm a 16777216) : 0 ≤ a.1 * a.1 ∧ a.1 * a.1 ≤ 281474976710656 ∧ 0 ≤ a.2 * a.2 ∧ a.2 * a.2 ≤ 281474976710656 := by
  obtain ⟨h1, h2, h3, h4⟩ := ha
  have p1 := prod_le h1 h2 h1 h2
  have p2 := prod_le h3 h4 h3 h4
  have s1 : 0 ≤ a.1 * a.1 := by rcases Int.le_total 0 a.1 with h | h; exact Int.mul_nonneg h h; exact Int.mul_nonneg_of_nonpos_of_nonpos h h
  have s2 : 0 ≤ a.2 * a.2 := by rcases Int.le_total 0 a.2 with h | h; exact Int.mul_nonneg h h; exact Int.mul_nonneg_of_nonpos_of_nonpos h h
  omega
set_option maxRecDepth 100000 in
theorem norm_ok (x : Nat × Nat) (a : Int × Int) (hx : Nm x a) (ha : Sm a 16777216) (w : World) : Calls Tryd.prog 34 #[.complex .f64 x.1 x.2] w fun e w' => e = .returned (.tuple #[.int .i64 (normZ a), .int .i64 0]) ∧ ∃ n, w' = w.drewN n := by
  have hp := Lib.hid (fun w => parts_ok x a hx ha w)
  obtain ⟨n1, n2, n3, n4⟩ := norm_le ha
  unfold normZ
  obtain ⟨a1, a2⟩ := a
  simp only at n1 n2 n3 n4 hp ⊢
  obtain ⟨u, hu⟩ : ∃ u, a1 * a1 = u := ⟨_, rfl⟩
  obtain ⟨v, hv⟩ : ∃ v, a2 * a2 = v := ⟨_, rfl⟩
  rw [hu] at n1 n2
  rw [hv] at n3 n4
  clear hx ha
  go_enter Tryd.func34, Tryd.ntmps34
  go_wp2_with (fail)
  refine (hp.out _).mono ?_
  rintro e w1 ⟨rfl, n, hn_⟩
  have hn_ := hn_.symm
  subst hn_
  go_wp2_with (fail)
  go_returns
  rw [hu, hv]
  exact ⟨rfl, n, rfl⟩
set_option maxRecDepth 100000 in
theorem norm_bad (x : Nat × Nat) (lx : x.1 < 18446744073709551616 ∧ x.2 < 18446744073709551616) (hno : ¬ (Rt x.1 ∧ Rt x.2)) (w : World) : Calls Tryd.prog 34 #[.complex .f64 x.1 x.2] w fun e w' => e = .returned (.tuple #[.int .i64 0, .int .i64 1]) ∧ ∃ n, w' = w.drewN n := by
  have hp := Lib.hid (fun w => parts_bad x lx hno w)
  clear lx hno
  go_enter Tryd.func34, Tryd.ntmps34
  go_wp2_with (fail)
  refine (hp.out _).mono ?_
  rintro e w1 ⟨rfl, n, hn_⟩
  have hn_ := hn_.symm
  subst hn_
  go_wp2_with (fail)
  go_returns
  exact ⟨rfl, n, rfl⟩
/-- x / n to the nearest, of two the lower one -/
def nearZ (x n : Int) : Int := if n - x % n < x % n then x / n + 1 else x / n
theorem tm_cases (x n : Int) (hn : 0 < n) : (x.tmod n < 0 ∧ x.tdiv n - 1 = x / n ∧ x.tmod n + n = x % n) ∨ (¬ x.tmod n < 0 ∧ x.tdiv n = x / n ∧ x.tmod n = x % n) := by
  have h1 := @Int.tmod_eq_emod x n
  have h2 := @Int.tdiv_eq_ediv x n
  have h3 := Int.emod_nonneg x (show n ≠ 0 by omega)
  have h4 := Int.emod_lt_of_pos x hn
  have h5 : n.sign = 1 := Int.sign_eq_one_of_pos hn
  by_cases hc : 0 ≤ x ∨ n ∣ x
  · rw [if_pos hc] at h1 h2
    right; omega
  · rw [if_neg hc] at h1 h2
    rw [h5] at h2
    left
    omega
theorem div_le {x n B : Int} (hn : 0 < n) (h1 : -B ≤ x) (h2 : x ≤ B) (hB : 0 ≤ B) : -B ≤ x / n ∧ x / n ≤ B := by
  constructor
  · rw [Int.le_ediv_iff_mul_le hn]
    have : B * 1 ≤ B * n := Int.mul_le_mul_of_nonneg_left (by omega) hB
    have e : -B * n = -(B * n) := Int.neg_mul ..
    omega
  · have := Int.ediv_le_ediv hn h2
    have h3 : B / n ≤ B := Int.ediv_le_self _ hB
    omega
set_option maxRecDepth 100000 in
theorem near_any (x n : Int) (hn : 0 < n) (hn2 : n ≤ 1125899906842624) (h1 : -1125899906842624 ≤ x) (h2 : x ≤ 1125899906842624) (w : World) : Calls Tryd.prog 48 #[.int .i64 x, .int .i64 n] w fun e w' => e = .returned (.int .i64 (nearZ x n)) ∧ ∃ k, w' = w.drewN k := by
  have hc := tm_cases x n hn
  have hd := div_le hn h1 h2 (by decide)
  have m1 := Int.emod_nonneg x (show n ≠ 0 by omega)
  have m2 := Int.emod_lt_of_pos x hn
  unfold nearZ
  obtain ⟨T, hT⟩ : ∃ T, x.tdiv n = T := ⟨_, rfl⟩
  obtain ⟨R, hR⟩ : ∃ R, x.tmod n = R := ⟨_, rfl⟩
  obtain ⟨D, hD⟩ : ∃ D, x / n = D := ⟨_, rfl⟩
  obtain ⟨M, hM⟩ : ∃ M, x % n = M := ⟨_, rfl⟩
  rw [hT, hR, hD, hM] at hc
  rw [hD] at hd
  rw [hM] at m1 m2
  rw [hD, hM]
  clear hD hM
  have t1 : -1125899906842625 ≤ T := by omega
  have t2 : T ≤ 1125899906842625 := by omega
  have r1 : -1125899906842624 ≤ R := by omega
  have r2 : R ≤ 1125899906842624 := by omega
  have hn0 : (n == 0) = false := by simp; omega
  by_cases hr : R < 0
  · have hc : T - 1 = D ∧ R + n = M := by omega
    obtain ⟨c1, c2⟩ := hc
    by_cases hg : n - M < M
    · rw [if_pos hg]
      go_enter Tryd.func48, Tryd.ntmps48
      go_wp2_with (fail)
      go_quiet (fail)
      go_wp2_with (fail)
      go_returns
      exact ⟨rfl, _, rfl⟩
    · rw [if_neg hg]
      go_enter Tryd.func48, Tryd.ntmps48
      go_wp2_with (fail)
      go_quiet (fail)
      go_wp2_with (fail)
      go_returns
      exact ⟨rfl, _, rfl⟩
  · have hc : T = D ∧ R = M := by omega
    obtain ⟨rfl, rfl⟩ := hc
    by_cases hg : n - R < R
    · rw [if_pos hg]
      go_enter Tryd.func48, Tryd.ntmps48
      go_wp2_with (fail)
      go_quiet (fail)
      go_wp2_with (fail)
      go_returns
      exact ⟨rfl, _, rfl⟩
    · rw [if_neg hg]
      go_enter Tryd.func48, Tryd.ntmps48
      go_wp2_with (fail)
      go_quiet (fail)
      go_wp2_with (fail)
      go_returns
      exact ⟨rfl, _, rfl⟩
end Go.Proofs.YtmmfjonoenmplaaDoor
