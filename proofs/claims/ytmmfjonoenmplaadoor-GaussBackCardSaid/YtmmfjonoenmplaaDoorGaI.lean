import Derived.Test.YtmmfjonoenmplaaDoorGaH
namespace Go.Proofs.YtmmfjonoenmplaaDoor
open Go.RowKit Go.Extern.Stop Go.Stop Go.Extern
set_option linter.unusedVariables false
set_option linter.unusedSimpArgs false
/-! gauss.Pow, Turn -/
def powF : Nat → Int × Int → Int × Int → Option (Int × Int)
  | 0, p, _ => some p
  | k + 1, p, a => if -33554432 ≤ (mulZ p a).1 ∧ (mulZ p a).1 ≤ 33554432 ∧ -33554432 ≤ (mulZ p a).2 ∧ (mulZ p a).2 ≤ 33554432 then powF k (mulZ p a) a else none
def powV (o : Option (Int × Int)) : Value := match o with
  | some p => res p
  | none => .tuple #[.complex .f64 0 0, .int .i64 8]
theorem wd_abs {x : Nat} {a : Int} (hx : Wd x a) : Wd (x % 9223372036854775808) (a.natAbs : Int) := by
  obtain ⟨ha, s, rfl, hs⟩ := hx
  refine ⟨by omega, false, ?_, ?_⟩
  · rw [fw_abs s ha]; simp
  · simp [sg]
theorem wd_max {x y : Nat} {a b : Int} (hx : Wd x a) (hy : Wd y b) : ∃ r, Wd r (max a b) ∧ ∀ (ts : Array TypeId) (t : TypeId) (w : World), (Builtin.max_ ts t #[.float .f64 x, .float .f64 y]).run Tryd.prog w = .ok (.float .f64 r) w := by
  have ho : FloatKind.f64.format.order x y = some (compare a b) := wd_order hx hy
  have hdef : ∀ (ts : Array TypeId) (t : TypeId), Builtin.max_ ts t #[.float .f64 x, .float .f64 y] = (match FloatKind.f64.format.order x y with
    | none => (do pure (Value.float .f64 (← choose (.nanMinMax .f64 true x y))) : Sem Value)
    | some .lt => pure (Value.float .f64 y)
    | some .gt => pure (Value.float .f64 x)
    | some .eq => pure (Value.float .f64 (if (FloatKind.f64.decode x).neg then y else x))) := fun ts t => by
    show (#[Value.float .f64 y].toList.foldlM Builtin.max2 (Value.float .f64 x)) = _
    simp only [List.foldlM, Builtin.max2]
    cases FloatKind.f64.format.order x y with
    | none => rfl
    | some o => cases o <;> rfl
  rcases Int.lt_trichotomy a b with h | h | h
  · refine ⟨y, by rw [show max a b = b by omega]; exact hy, fun ts t w => ?_⟩
    rw [hdef, ho, cmp_lt.2 h]; rfl
  · subst h
    by_cases hn : (FloatKind.f64.decode x).neg = true
    · refine ⟨y, by rw [show max a a = a by omega]; exact hy, fun ts t w => ?_⟩
      rw [hdef, ho, cmp_eq.2 rfl]; simp [hn]
    · refine ⟨x, by rw [show max a a = a by omega]; exact hx, fun ts t w => ?_⟩
      rw [hdef, ho, cmp_eq.2 rfl]; simp [hn]
  · refine ⟨x, by rw [show max a b = a by omega]; exact hx, fun ts t w => ?_⟩
    rw [hdef, ho, cmp_gt.2 h]; rfl
theorem wd_2max : Wd 4719772409484279808 33554432 := ⟨by decide, false, by decide +kernel, by decide⟩
set_option maxRecDepth 100000 in
theorem pow_arg (x : Nat × Nat) (k : Int) (lx : x.1 < 18446744073709551616 ∧ x.2 < 18446744073709551616) (hno : ¬ ((Rt x.1 ∧ Rt x.2) ∧ 0 ≤ k ∧ k ≤ 64)) (w : World) : Calls Tryd.prog 39 #[.complex .f64 x.1 x.2, .int .i64 k] w fun e w' => e = .returned bad ∧ Below w.heap.size w w' := by
  obtain ⟨x1, x2⟩ := x
  have has := Lib.hid (fun (w : World) (g : Nat) (c0 : w.cell? ⟨g, 0, none⟩ = some (.complex .f64 x1 x2)) => asked1 (x1, x2) w g c0 lx)
  have hne := errNe
  have hnn := nilNe
  unfold errArg at hne
  clear lx
  by_cases hR : Rt x1 ∧ Rt x2
  · have hk : k < 0 ∨ ¬ k < 0 ∧ 64 < k := by
      rcases (by omega : k < 0 ∨ 64 < k ∨ 0 ≤ k ∧ k ≤ 64) with h | h | h
      · exact .inl h
      · exact .inr ⟨by omega, h⟩
      · exact absurd ⟨hR, h⟩ hno
    have hrx := Lib.hid hR
    clear hno hR
    rcases hk with h | ⟨h, h'⟩
    all_goals (
      go_enter Tryd.func39, Tryd.ntmps39
      go_wp2_with (fail)
      have hB := (Below.refl w.heap.size w).alloc (Nat.le_refl _) (.cells #[.complex .f64 x1 x2] 28)
      have hK := Bk.fresh w 28 #[.complex .f64 x1 x2]
      obtain ⟨X, hX⟩ : ∃ X, w.alloc (.cells #[.complex .f64 x1 x2] 28) = X := ⟨_, rfl⟩
      rw [hX] at hB hK ⊢
      refine (has.out X _ (hK.cell 0)).mono ?_
      rintro e w1 ⟨v, rfl, hv, n, hn_⟩
      have hn_ := hn_.symm
      subst hn_
      obtain rfl : v = .nilIface := by
        rcases hv with h | h
        · exact h.2
        · exact absurd hrx.out h.1
      clear hv
      have hB2 : Below w.heap.size w (X.drewN n) := hB.trans ⟨rfl, rfl, rfl, Nat.le_refl _, fun _ _ => rfl⟩
      clear hB hK
      go_wp2_with (fail)
      go_returns
      exact ⟨rfl, hB2⟩)
  · have hno := Lib.hid hR
    clear hR
    go_enter Tryd.func39, Tryd.ntmps39
    go_wp2_with (fail)
    have hB := (Below.refl w.heap.size w).alloc (Nat.le_refl _) (.cells #[.complex .f64 x1 x2] 28)
    have hK := Bk.fresh w 28 #[.complex .f64 x1 x2]
    obtain ⟨X, hX⟩ : ∃ X, w.alloc (.cells #[.complex .f64 x1 x2] 28) = X := ⟨_, rfl⟩
    rw [hX] at hB hK ⊢
    refine (has.out X _ (hK.cell 0)).mono ?_
    rintro e w1 ⟨v, rfl, hv, n, hn_⟩
    have hn_ := hn_.symm
    subst hn_
    obtain rfl : v = errArg := by
      rcases hv with h | h
      · exact absurd h.1 hno.out
      · exact h.2
    clear hv
    have hB2 : Below w.heap.size w (X.drewN n) := hB.trans ⟨rfl, rfl, rfl, Nat.le_refl _, fun _ _ => rfl⟩
    clear hB hK
    unfold errArg
    go_wp2_with (fail)
    go_returns
    exact ⟨rfl, hB2⟩
set_option maxRecDepth 100000 in
set_option maxHeartbeats 2000000 in
theorem pow_ok (x : Nat × Nat) (a : Int × Int) (k : Nat) (hx : Nm x a) (ha : Sm a 16777216) (hk : k ≤ 64) (w : World) : Calls Tryd.prog 39 #[.complex .f64 x.1 x.2, .int .i64 k] w fun e w' => e = .returned (powV (powF k (1, 0) a)) ∧ Below w.heap.size w w' := by
  have hrx := (nm_rt hx).2 ha
  have lx := nm_lt hx
  have k0 : ¬ (k : Int) < 0 := by omega
  have k1 : ¬ 64 < (k : Int) := by omega
  have hnn := nilNe
  have hxx := Lib.hid (⟨hx, ha⟩ : Nm x a ∧ Sm a 16777216)
  obtain ⟨x1, x2⟩ := x
  have has := Lib.hid (fun (w : World) (g : Nat) (c0 : w.cell? ⟨g, 0, none⟩ = some (.complex .f64 x1 x2)) => asked1 (x1, x2) w g c0 lx)
  replace hrx := Lib.hid hrx
  have hq0 : Hid (∃ z, Nm (4607182418800017408, 0) z ∧ Sm z 33554432 ∧ powF k z a = powF k (1, 0) a) := Lib.hid ⟨(1, 0), ⟨wd_pos1, wd_zero⟩, by unfold Sm; decide, rfl⟩
  clear lx hx ha
  go_enter Tryd.func39, Tryd.ntmps39
  go_wp2_with (fail)
  have hB := (Below.refl w.heap.size w).alloc (Nat.le_refl _) (.cells #[.complex .f64 x1 x2] 28)
  have hK := Bk.fresh w 28 #[.complex .f64 x1 x2]
  obtain ⟨X, hX⟩ : ∃ X, w.alloc (.cells #[.complex .f64 x1 x2] 28) = X := ⟨_, rfl⟩
  rw [hX] at hB hK ⊢
  refine (has.out X _ (hK.cell 0)).mono ?_
  rintro e w1 ⟨v, rfl, hv, n, hn_⟩
  have hn_ := hn_.symm
  subst hn_
  obtain rfl : v = .nilIface := by
    rcases hv with h | h
    · exact h.2
    · exact absurd hrx.out h.1
  clear hv
  have hB2 : Below w.heap.size w (X.drewN n) := hB.trans ⟨rfl, rfl, rfl, Nat.le_refl _, fun _ _ => rfl⟩
  clear hB hK
  have hB2 := Lib.hid hB2
  go_wp2_with (fail)
  go_loopw [6, 20] (fun v c wr => ∃ (j : Nat) (p : Nat × Nat), c = .int .i64 j ∧ j ≤ k ∧ v = .complex .f64 p.1 p.2 ∧ Hid (∃ z, Nm p z ∧ Sm z 33554432 ∧ powF (k - j) z a = powF k (1, 0) a) ∧ Hid (Below w.heap.size w wr)) (fun _ c _ => k - (intOf c).toNat)
  case atStart => exact ⟨0, (4607182418800017408, 0), rfl, Nat.zero_le _, rfl, hq0, hB2⟩
  case round =>
    obtain ⟨j, p, rfl, hj, rfl, hQ, hwB⟩ := hrel
    obtain ⟨z, hz, hs, hf⟩ := hQ.out
    by_cases h4 : j < k
    · have j4 : (j : Int) < (k : Int) := by omega
      obtain ⟨m, hm⟩ : ∃ m, k - j = m + 1 := ⟨k - j - 1, by omega⟩
      rw [hm] at hf
      obtain ⟨r, hr, hrun⟩ := nm_mul hz hxx.out.1 (sm_mono hs (by decide)) hxx.out.2 28
      change Nm r (mulZ z a) at hr
      have a1 := Lib.hid (fun w => abs_any r.1 (wd_lt hr.1) w)
      have a2 := Lib.hid (fun w => abs_any r.2 (wd_lt hr.2) w)
      obtain ⟨mx, hmx, hmr⟩ := wd_max (wd_abs hr.1) (wd_abs hr.2)
      have hcmp : FloatKind.f64.format.order mx 4719772409484279808 = some (compare (max ((mulZ z a).1.natAbs : Int) ((mulZ z a).2.natAbs : Int)) 33554432) := wd_order hmx wd_2max
      by_cases hin : -33554432 ≤ (mulZ z a).1 ∧ (mulZ z a).1 ≤ 33554432 ∧ -33554432 ≤ (mulZ z a).2 ∧ (mulZ z a).2 ≤ 33554432
      · have hg : (FloatKind.f64.format.order mx 4719772409484279808 == some .gt) = false := by
          rw [hcmp]
          have : compare (max ((mulZ z a).1.natAbs : Int) ((mulZ z a).2.natAbs : Int)) 33554432 ≠ .gt := fun e => by have := cmp_gt.1 e; omega
          simpa using this
        rw [powF, if_pos hin] at hf
        have hN : Hid (∃ z, Nm r z ∧ Sm z 33554432 ∧ powF (k - (j + 1)) z a = powF k (1, 0) a) := Lib.hid ⟨mulZ z a, hr, hin, by rw [show k - (j + 1) = m by omega]; exact hf⟩
        obtain ⟨p1, p2⟩ := p
        obtain ⟨s1, s2⟩ := r
        clear hz hs hf hQ hr hcmp hmx hin
        go_wp2_with (fail)
        refine (a1.out _).mono ?_
        rintro e w2 ⟨rfl, hw_⟩
        have hw_ := hw_.symm
        subst hw_
        go_wp2_with (fail)
        refine (a2.out _).mono ?_
        rintro e w2 ⟨rfl, hw_⟩
        have hw_ := hw_.symm
        subst hw_
        go_wp2_with (fail)
        refine ⟨⟨j + 1, (s1, s2), rfl, by omega, rfl, hN, hwB⟩, ?_⟩
        simp [intOf]; omega
      · have hg : (FloatKind.f64.format.order mx 4719772409484279808 == some .gt) = true := by
          rw [hcmp, cmp_gt.2 (by omega)]; rfl
        rw [powF, if_neg hin] at hf
        have hN : Hid (powF k (1, 0) a = none) := Lib.hid hf.symm
        obtain ⟨p1, p2⟩ := p
        obtain ⟨s1, s2⟩ := r
        clear hz hs hf hQ hr hcmp hmx hin
        go_wp2_with (fail)
        refine (a1.out _).mono ?_
        rintro e w2 ⟨rfl, hw_⟩
        have hw_ := hw_.symm
        subst hw_
        go_wp2_with (fail)
        refine (a2.out _).mono ?_
        rintro e w2 ⟨rfl, hw_⟩
        have hw_ := hw_.symm
        subst hw_
        go_wp2_with (fail)
        go_returns
        rw [hN.out]
        exact ⟨rfl, hwB.out⟩
    · have j4 : ¬ (j : Int) < (k : Int) := by omega
      rw [show k - j = 0 by omega, powF] at hf
      have ht := Lib.hid (fun w => told_nil _ _ _ _ hz.1 hz.2 w)
      obtain ⟨p1, p2⟩ := p
      replace hf := Lib.hid hf
      obtain ⟨z1, z2⟩ := z
      obtain ⟨v, q, hvq⟩ := toldV_form z1 z2
      have hvq2 := Lib.hid hvq
      simp only at ht
      rw [hvq] at ht
      clear hz hs hQ hvq
      go_wp2_with (fail)
      refine (ht.out _).mono ?_
      rintro e w2 ⟨rfl, n2, hn_⟩
      have hwB2 : Below w.heap.size w w2 := by rw [hn_]; exact hwB.out.trans ⟨rfl, rfl, rfl, Nat.le_refl _, fun _ _ => rfl⟩
      clear hn_
      go_wp2_with (fail)
      go_returns
      rw [← hf.out]
      refine ⟨?_, hwB2⟩
      show Ending.returned _ = Ending.returned (toldV z1 z2)
      rw [hvq2.out]
      rfl
end Go.Proofs.YtmmfjonoenmplaaDoor
