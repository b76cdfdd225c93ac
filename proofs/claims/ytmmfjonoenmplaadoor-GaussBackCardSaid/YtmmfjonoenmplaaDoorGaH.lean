import Derived.Test.YtmmfjonoenmplaaDoorGaG
namespace Go.Proofs.YtmmfjonoenmplaaDoor
open Go.RowKit Go.Extern.Stop Go.Stop Go.Extern
set_option linter.unusedVariables false
set_option linter.unusedSimpArgs false
/-! gauss.Gcd, Pow, Turn -/
/-- the divisor, by a bound on the steps -/
def gcdF : Nat → Int × Int → Int × Int → Int × Int
  | 0, a, _ => a
  | k + 1, a, b => if b = (0, 0) then a else gcdF k b (divR a b)
def normN (b : Int × Int) : Nat := (normZ b).toNat
def gcdZ (a b : Int × Int) : Int × Int := gcdF (normN b + 1) a b
theorem norm_less (a b : Int × Int) (h : b ≠ (0, 0)) : normN (divR a b) < normN b := by
  have h1 := rem_norm a b h
  have h2 := norm_pos h
  unfold normN
  omega
theorem gcd_enough : ∀ (k l : Nat) (a b : Int × Int), normN b < k → normN b < l → gcdF k a b = gcdF l a b
  | 0, _, _, _, h, _ => absurd h (by omega)
  | _ + 1, 0, _, _, _, h => absurd h (by omega)
  | k + 1, l + 1, a, b, h1, h2 => by
    unfold gcdF
    by_cases h : b = (0, 0)
    · rw [if_pos h, if_pos h]
    · rw [if_neg h, if_neg h]
      have := norm_less a b h
      exact gcd_enough k l b (divR a b) (by omega) (by omega)
theorem gcdZ_step {a b : Int × Int} (h : b ≠ (0, 0)) : gcdZ b (divR a b) = gcdZ a b := by
  unfold gcdZ
  have hl := norm_less a b h
  rw [gcd_enough (normN (divR a b) + 1) (normN b) b (divR a b) (by omega) hl]
  conv => rhs; rw [gcdF, if_neg h]
theorem gcdZ_end (a : Int × Int) : gcdZ a (0, 0) = a := by
  unfold gcdZ
  rw [gcdF, if_pos rfl]
/-- the norm of a value -/
def valN : Value → Nat
  | .complex _ x y => normN (((Ieee.double.read x).toInt .zero).getD 0, ((Ieee.double.read y).toInt .zero).getD 0)
  | _ => 0
theorem valN_is {x : Nat × Nat} {z : Int × Int} (h : Nm x z) : valN (.complex .f64 x.1 x.2) = normN z := by
  show normN (((Ieee.double.read x.1).toInt .zero).getD 0, ((Ieee.double.read x.2).toInt .zero).getD 0) = _
  rw [wd_toInt h.1, wd_toInt h.2]
  rfl
set_option maxRecDepth 100000 in
theorem gcd_bad (x y : Nat × Nat) (lx : x.1 < 18446744073709551616 ∧ x.2 < 18446744073709551616) (ly : y.1 < 18446744073709551616 ∧ y.2 < 18446744073709551616) (hno : ¬ ((Rt x.1 ∧ Rt x.2) ∧ (Rt y.1 ∧ Rt y.2))) (w : World) : Calls Tryd.prog 16 #[.complex .f64 x.1 x.2, .complex .f64 y.1 y.2] w fun e w' => e = .returned bad ∧ Below w.heap.size w w' := by
  obtain ⟨x1, x2⟩ := x
  obtain ⟨y1, y2⟩ := y
  have has := Lib.hid (fun (w : World) (g : Nat) (c0 : w.cell? ⟨g, 0, none⟩ = some (.complex .f64 x1 x2)) (c1 : w.cell? ⟨g, 1, none⟩ = some (.complex .f64 y1 y2)) => asked2 (x1, x2) (y1, y2) w g c0 c1 lx ly)
  replace hno := Lib.hid hno
  have hne := errNe
  unfold errArg at hne
  clear lx ly
  go_enter Tryd.func16, Tryd.ntmps16
  go_wp2_with (fail)
  have hB := (Below.refl w.heap.size w).alloc (Nat.le_refl _) (.cells #[.complex .f64 x1 x2, .complex .f64 y1 y2] 28)
  have hK := Bk.fresh w 28 #[.complex .f64 x1 x2, .complex .f64 y1 y2]
  obtain ⟨X, hX⟩ : ∃ X, w.alloc (.cells #[.complex .f64 x1 x2, .complex .f64 y1 y2] 28) = X := ⟨_, rfl⟩
  rw [hX] at hB hK ⊢
  refine (has.out X _ (hK.cell 0) (hK.cell 1)).mono ?_
  rintro e w1 ⟨v, rfl, hv, n, hn_⟩
  have hn_ := hn_.symm
  subst hn_
  obtain rfl : v = errArg := by
    rcases hv with h | h
    · exact absurd ⟨h.1, h.2.1⟩ hno.out
    · exact h.2
  clear hv
  have hB2 : Below w.heap.size w (X.drewN n) := hB.trans ⟨rfl, rfl, rfl, Nat.le_refl _, fun _ _ => rfl⟩
  clear hB hK
  unfold errArg
  go_wp2_with (fail)
  go_returns
  exact ⟨rfl, hB2⟩
set_option maxRecDepth 100000 in
set_option maxHeartbeats 2000000 in
theorem gcd_ok (x y : Nat × Nat) (a b : Int × Int) (hx : Nm x a) (hy : Nm y b) (ha : Sm a 16777216) (hb : Sm b 16777216) (w : World) : Calls Tryd.prog 16 #[.complex .f64 x.1 x.2, .complex .f64 y.1 y.2] w fun e w' => e = .returned (.tuple #[cw (firstZ (gcdZ a b)), .int .i64 0]) ∧ Below w.heap.size w w' := by
  have hrx := (nm_rt hx).2 ha
  have hry := (nm_rt hy).2 hb
  have lx := nm_lt hx
  have ly := nm_lt hy
  have hq0 : Hid (∃ z u, Nm x z ∧ Nm y u ∧ Sm z 16777216 ∧ Sm u 16777216 ∧ gcdZ z u = gcdZ a b) := Lib.hid ⟨a, b, hx, hy, ha, hb, rfl⟩
  obtain ⟨x1, x2⟩ := x
  obtain ⟨y1, y2⟩ := y
  have has := Lib.hid (fun (w : World) (g : Nat) (c0 : w.cell? ⟨g, 0, none⟩ = some (.complex .f64 x1 x2)) (c1 : w.cell? ⟨g, 1, none⟩ = some (.complex .f64 y1 y2)) => asked2 (x1, x2) (y1, y2) w g c0 c1 lx ly)
  have hne := nilNe
  replace hrx := Lib.hid hrx
  replace hry := Lib.hid hry
  clear lx ly hx hy ha hb
  go_enter Tryd.func16, Tryd.ntmps16
  go_wp2_with (fail)
  have hB := (Below.refl w.heap.size w).alloc (Nat.le_refl _) (.cells #[.complex .f64 x1 x2, .complex .f64 y1 y2] 28)
  have hK := Bk.fresh w 28 #[.complex .f64 x1 x2, .complex .f64 y1 y2]
  obtain ⟨X, hX⟩ : ∃ X, w.alloc (.cells #[.complex .f64 x1 x2, .complex .f64 y1 y2] 28) = X := ⟨_, rfl⟩
  rw [hX] at hB hK ⊢
  refine (has.out X _ (hK.cell 0) (hK.cell 1)).mono ?_
  rintro e w1 ⟨v, rfl, hv, n, hn_⟩
  have hn_ := hn_.symm
  subst hn_
  obtain rfl : v = .nilIface := by
    rcases hv with h | h
    · exact h.2.2
    · exact absurd ⟨hrx.out, hry.out⟩ h.1
  clear hv
  have hB2 : Below w.heap.size w (X.drewN n) := hB.trans ⟨rfl, rfl, rfl, Nat.le_refl _, fun _ _ => rfl⟩
  clear hB hK
  have hB2 := Lib.hid hB2
  go_wp2_with (fail)
  go_loopw [0, 1] (fun v u wr => ∃ (p q : Nat × Nat), v = .complex .f64 p.1 p.2 ∧ u = .complex .f64 q.1 q.2 ∧ Hid (∃ z t, Nm p z ∧ Nm q t ∧ Sm z 16777216 ∧ Sm t 16777216 ∧ gcdZ z t = gcdZ a b) ∧ Hid (Below w.heap.size w wr)) (fun _ u _ => valN u)
  case atStart => exact ⟨(x1, x2), (y1, y2), rfl, rfl, hq0, hB2⟩
  case round =>
    obtain ⟨p, q, rfl, rfl, hQ, hwB⟩ := hrel
    obtain ⟨z, t, hz, ht, hs, hst, hf⟩ := hQ.out
    have z1 := eq_zero ht.1
    have z2 := eq_zero ht.2
    by_cases h0 : t = (0, 0)
    · subst h0
      simp only [decide_true] at z1 z2
      rw [gcdZ_end] at hf
      have hfi := Lib.hid (fun w => first_ok p z hz hs w)
      obtain ⟨p1, p2⟩ := p
      obtain ⟨q1, q2⟩ := q
      replace hf := Lib.hid hf
      clear hz ht hs hst hQ
      go_wp2_with (fail)
      refine (hfi.out _).mono ?_
      rintro e w2 ⟨rfl, hb2⟩
      go_wp2_with (fail)
      go_returns
      rw [hf.out]
      exact ⟨rfl, hwB.out.trans (hb2.mono hwB.out.size)⟩
    · have hzz : ((FloatKind.f64.format.order q.1 0 == some .eq) = false) ∨ ((FloatKind.f64.format.order q.1 0 == some .eq) = true ∧ (FloatKind.f64.format.order q.2 0 == some .eq) = false) := by
        rw [z1, z2]
        by_cases h : t.1 = 0
        · exact .inr ⟨decide_eq_true h, decide_eq_false fun h2 => h0 (Prod.ext h h2)⟩
        · exact .inl (decide_eq_false h)
      have hd := Lib.hid (fun w => div_ok p q z t hz ht hs hst h0 w)
      have hrs := divR_sm (a := z) h0 hst
      have hN : Hid (∃ z t', Nm q z ∧ Nm (fi (divR z t).1 false, fi (divR z t).2 false) t' ∧ True) := Lib.hid ⟨t, divR t t, ht, nm_cw _ (sm_mono (divR_sm (a := t) h0 hst) (by decide)), trivial⟩
      have hN2 : Hid (∃ z' t', Nm q z' ∧ Nm (fi (divR z t).1 false, fi (divR z t).2 false) t' ∧ Sm z' 16777216 ∧ Sm t' 16777216 ∧ gcdZ z' t' = gcdZ a b) := Lib.hid ⟨t, divR z t, ht, nm_cw _ (sm_mono hrs (by decide)), hst, hrs, by rw [gcdZ_step h0]; exact hf⟩
      have hm : Hid (valN (.complex .f64 (fi (divR z t).1 false) (fi (divR z t).2 false)) < valN (.complex .f64 q.1 q.2)) := Lib.hid (by
        have e1 := valN_is (nm_cw (divR z t) (sm_mono hrs (by decide)))
        simp only at e1
        rw [e1, valN_is ht]
        exact norm_less z t h0)
      unfold cw at hd
      obtain ⟨r1, hr1⟩ : ∃ r, fi (divR z t).1 false = r := ⟨_, rfl⟩
      obtain ⟨r2, hr2⟩ : ∃ r, fi (divR z t).2 false = r := ⟨_, rfl⟩
      rw [hr1, hr2] at hd hN2 hm
      obtain ⟨k1, hk1⟩ : ∃ r, fi (divQ z t).1 false = r := ⟨_, rfl⟩
      obtain ⟨k2, hk2⟩ : ∃ r, fi (divQ z t).2 false = r := ⟨_, rfl⟩
      rw [hk1, hk2] at hd
      obtain ⟨p1, p2⟩ := p
      obtain ⟨q1, q2⟩ := q
      simp only at hm hzz
      clear hz ht hs hst hQ hN hr1 hr2 hk1 hk2 hrs hf z1 z2 h0
      rcases hzz with z1 | ⟨z1, z2⟩
      all_goals (
        go_wp2_with (fail)
        refine (hd.out _).mono ?_
        rintro e w2 ⟨rfl, hb2⟩
        have hwB2 := Lib.hid (hwB.out.trans (hb2.mono hwB.out.size))
        clear hb2
        go_wp2_with (fail)
        refine ⟨⟨(q1, q2), (r1, r2), rfl, rfl, hN2, hwB2⟩, ?_⟩
        exact hm.out)
end Go.Proofs.YtmmfjonoenmplaaDoor
