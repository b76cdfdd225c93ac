import Derived.Test.YtmmfjonoenmplaaDoorGaV
import Derived.Test.YtmmfjonoenmplaaDoorGaW
namespace Go.Proofs.YtmmfjonoenmplaaDoor
open Go.RowKit Go.Extern.Stop Go.Stop Go.Extern
set_option linter.unusedVariables false
set_option linter.unusedSimpArgs false
/-! the walk of GaussTurns -/
def A1 (f : Nat) (args : Array Value) (r : Value) : Prop := ∀ w, Calls Tryd.prog f args w fun e w' => e = .returned r ∧ Below w.heap.size w w'
theorem turns_good (x : Nat × Nat) (a : Int × Int) (n : Int) (hx : Nm x a) (ha : Sm a 16777216) : ∃ (vc vt vo : Value),
    (A1 31 #[.complex .f64 x.1 x.2] (.tuple #[vc, .int .i64 0]) ∧ A1 32 #[.complex .f64 x.1 x.2, .int .i64 n] (.tuple #[vt, .int .i64 0]) ∧
    A1 33 #[.complex .f64 x.1 x.2] (.tuple #[vo, .int .i64 0]) ∧ A1 34 #[.complex .f64 x.1 x.2] (.tuple #[.int .i64 (normZ a), .int .i64 0])) ∧
    (A1 17 #[vc, .int .i64 0, zV (a.1, -a.2), .int .i64 0] (.bool true) ∧ A1 17 #[vt, .int .i64 0, zV (turnZ a n), .int .i64 0] (.bool true) ∧ A1 17 #[vo, .int .i64 0, zV (firstZ a), .int .i64 0] (.bool true)) := by
  have hc : Sm (a.1, -a.2) 16777216 := by unfold Sm at *; simp only; omega
  have big : (16777216 : Int) ≤ 1125899906842624 := by decide
  refine ⟨cw (a.1, -a.2), cw (turnZ a n), cw (firstZ a), ⟨fun w => ?_, fun w => turn_ok x a n hx ha w, fun w => first_ok x a hx ha w, fun w => ?_⟩, fun w => answers_ok _ (sm_mono hc big) w, fun w => answers_ok _ (sm_mono (turn_sm ha n) big) w, fun w => answers_ok _ (sm_mono (first_sm ha) big) w⟩
  · rw [← res_small _ hc]
    exact conj_ok x a hx ha w
  · refine (norm_ok x a hx ha w).mono ?_
    rintro e w' ⟨h, n, rfl⟩
    exact ⟨h, drewN_below w⟩
theorem turns_bad (x : Nat × Nat) (a : Int × Int) (n : Int) (lx : x.1 < 18446744073709551616 ∧ x.2 < 18446744073709551616) (hno : ¬ (Rt x.1 ∧ Rt x.2)) : ∃ (vc vt vo : Value),
    (A1 31 #[.complex .f64 x.1 x.2] (.tuple #[vc, .int .i64 1]) ∧ A1 32 #[.complex .f64 x.1 x.2, .int .i64 n] (.tuple #[vt, .int .i64 1]) ∧
    A1 33 #[.complex .f64 x.1 x.2] (.tuple #[vo, .int .i64 1]) ∧ A1 34 #[.complex .f64 x.1 x.2] (.tuple #[.int .i64 0, .int .i64 1])) ∧
    (A1 17 #[vc, .int .i64 1, zV (a.1, -a.2), .int .i64 1] (.bool true) ∧ A1 17 #[vt, .int .i64 1, zV (turnZ a n), .int .i64 1] (.bool true) ∧ A1 17 #[vo, .int .i64 1, zV (firstZ a), .int .i64 1] (.bool true)) := by
  refine ⟨.complex .f64 0 0, .complex .f64 0 0, .complex .f64 0 0, ⟨fun w => conj_bad x lx hno w, fun w => turn_bad x lx hno n w, fun w => first_bad x lx hno w, fun w => ?_⟩, fun w => answers_err _ 1 (by decide) w, fun w => answers_err _ 1 (by decide) w, fun w => answers_err _ 1 (by decide) w⟩
  refine (norm_bad x lx hno w).mono ?_
  rintro e w' ⟨h, n, rfl⟩
  exact ⟨h, drewN_below w⟩
set_option maxRecDepth 100000 in
set_option maxHeartbeats 8000000 in
theorem walk_turns (x y : Nat) (n : Int) (w : World) (hT : Tab w) (hx : x < 18446744073709551616) (hy : y < 18446744073709551616) (hn : -9223372036854775808 ≤ n ∧ n ≤ 9223372036854775807) :
    Calls Tryd.prog 6 #[.float .f64 x, .float .f64 y, .int .i64 n] w fun e w' => e = .returned (.bool true) ∧ Below w.heap.size w w' := by
  have hsh := Lib.hid (shown_any w hT)
  have hof := Lib.hid (fun w => rof_any (x, y) ⟨hx, hy⟩ w)
  have hbad := Lib.hid (fun a (hno : ¬ (Rt x ∧ Rt y)) => turns_bad (x, y) a n ⟨hx, hy⟩ hno)
  clear hx hy hT hn
  go_enter Tryd.func6, Tryd.ntmps6
  go_wp2_with (fail)
  refine hsh.out.mono ?_
  rintro e w1 ⟨rfl, hb_⟩
  have hZ : Hid (Zs w w1 []) := Lib.hid ⟨hb_, fun x hx => by cases hx⟩
  clear hb_ hsh
  go_wp2_with (fail)
  refine (hof.out _).mono ?_
  rintro e w2 ⟨⟨a1, a2⟩, ok, rfl, hz, hb_⟩
  replace hZ := Lib.hid ((hZ.out.bel hb_).made a1 a2)
  clear hb_ hof
  unfold zV
  have hs : Sm (a1, a2) 16777216 := hz.1
  have hrt := fun w => rturn_any (a1, a2) (sm_mono hs (by decide)) n w
  have hro := fun w => rfirst_any (a1, a2) hs w
  have hrn := fun w => rnorm_any (a1, a2) hs w
  have wn : IntKind.i64.wrap (-a2) = -a2 := by
    unfold Sm at hs
    rw [IntKind.wrap_i64]; omega
  unfold zV at hrt hro hrn
  simp only at hrt hro hrn
  have rt := Lib.hid hrt
  have ro := Lib.hid hro
  have rn := Lib.hid hrn
  replace hz := Lib.hid hz
  clear hs hrt hro hrn
  by_cases hR : Rt x ∧ Rt y
  · obtain ⟨c, hc1, hc2⟩ := rt_nm (x := (x, y)) hR
    obtain rfl : ok = true := hz.out.2.1.2 hR
    obtain rfl : (a1, a2) = c := hz.out.2.2 c hc1 hc2
    obtain ⟨vc, vt, vo, ⟨f1, f2, f3, f4⟩, g1_, g2_, g3_⟩ := turns_good (x, y) (a1, a2) n hc1 hc2
    obtain ⟨nz, hnz⟩ : ∃ m, normZ (a1, a2) = m := ⟨_, rfl⟩
    rw [hnz] at f4 rn
    clear hR hc1 hc2 hz hbad hnz
    go_wp2_with (fail)
    obtain ⟨g1, hg1⟩ : ∃ g, w2.heap.size = g := ⟨_, rfl⟩
    obtain ⟨X, hX⟩ : ∃ X, w2.alloc (.cells #[.int .i64 a1, .int .i64 a2] 25) = X := ⟨_, rfl⟩
    rw [hg1, hX] at hZ
    rw [hX, hg1]
    clear hX hg1
    unfold A1 at f1 f2 f3 f4 g1_ g2_ g3_
    unfold zV at g1_ g2_ g3_
    simp only at f1 f2 f3 f4 g1_ g2_ g3_
    replace f1 := Lib.hid f1
    replace f2 := Lib.hid f2
    replace f3 := Lib.hid f3
    replace f4 := Lib.hid f4
    replace g1_ := Lib.hid g1_
    replace g2_ := Lib.hid g2_
    replace g3_ := Lib.hid g3_
    have k0 := hZ.out.c0 (g := g1) (a := a1) (b := a2) (by simp)
    have k1 := hZ.out.c1 (g := g1) (a := a1) (b := a2) (by simp)
    go_wp2_with (fail)
    refine (f1.out _).mono ?_
    rintro e w_ ⟨rfl, hb_⟩
    replace hZ := Lib.hid (hZ.out.bel hb_)
    clear hb_ k0 k1
    have k0 := hZ.out.c0 (g := g1) (a := a1) (b := a2) (by simp)
    have k1 := hZ.out.c1 (g := g1) (a := a1) (b := a2) (by simp)
    go_wp2_with (fail)
    refine (f2.out _).mono ?_
    rintro e w_ ⟨rfl, hb_⟩
    replace hZ := Lib.hid (hZ.out.bel hb_)
    clear hb_ k0 k1
    have k0 := hZ.out.c0 (g := g1) (a := a1) (b := a2) (by simp)
    have k1 := hZ.out.c1 (g := g1) (a := a1) (b := a2) (by simp)
    go_wp2_with (fail)
    refine (f3.out _).mono ?_
    rintro e w_ ⟨rfl, hb_⟩
    replace hZ := Lib.hid (hZ.out.bel hb_)
    clear hb_ k0 k1
    have k0 := hZ.out.c0 (g := g1) (a := a1) (b := a2) (by simp)
    have k1 := hZ.out.c1 (g := g1) (a := a1) (b := a2) (by simp)
    go_wp2_with (fail)
    refine (f4.out _).mono ?_
    rintro e w_ ⟨rfl, hb_⟩
    replace hZ := Lib.hid (hZ.out.bel hb_)
    clear hb_ k0 k1
    have k0 := hZ.out.c0 (g := g1) (a := a1) (b := a2) (by simp)
    have k1 := hZ.out.c1 (g := g1) (a := a1) (b := a2) (by simp)
    go_wp2_with (fail)
    refine (g1_.out _).mono ?_
    rintro e w_ ⟨rfl, hb_⟩
    replace hZ := Lib.hid (hZ.out.bel hb_)
    clear hb_ k0 k1
    have k0 := hZ.out.c0 (g := g1) (a := a1) (b := a2) (by simp)
    have k1 := hZ.out.c1 (g := g1) (a := a1) (b := a2) (by simp)
    go_wp2_with (fail)
    refine (rt.out _).mono ?_
    rintro e w_ ⟨rfl, hb_⟩
    replace hZ := Lib.hid (hZ.out.bel hb_)
    clear hb_ k0 k1
    have k0 := hZ.out.c0 (g := g1) (a := a1) (b := a2) (by simp)
    have k1 := hZ.out.c1 (g := g1) (a := a1) (b := a2) (by simp)
    go_wp2_with (fail)
    refine (g2_.out _).mono ?_
    rintro e w_ ⟨rfl, hb_⟩
    replace hZ := Lib.hid (hZ.out.bel hb_)
    clear hb_ k0 k1
    have k0 := hZ.out.c0 (g := g1) (a := a1) (b := a2) (by simp)
    have k1 := hZ.out.c1 (g := g1) (a := a1) (b := a2) (by simp)
    go_wp2_with (fail)
    refine (ro.out _).mono ?_
    rintro e w_ ⟨rfl, hb_⟩
    replace hZ := Lib.hid (hZ.out.bel hb_)
    clear hb_ k0 k1
    have k0 := hZ.out.c0 (g := g1) (a := a1) (b := a2) (by simp)
    have k1 := hZ.out.c1 (g := g1) (a := a1) (b := a2) (by simp)
    go_wp2_with (fail)
    refine (g3_.out _).mono ?_
    rintro e w_ ⟨rfl, hb_⟩
    replace hZ := Lib.hid (hZ.out.bel hb_)
    clear hb_ k0 k1
    have k0 := hZ.out.c0 (g := g1) (a := a1) (b := a2) (by simp)
    have k1 := hZ.out.c1 (g := g1) (a := a1) (b := a2) (by simp)
    go_wp2_with (fail)
    refine (rn.out _).mono ?_
    rintro e w_ ⟨rfl, hb_⟩
    replace hZ := Lib.hid (hZ.out.bel hb_)
    clear hb_ k0 k1
    have k0 := hZ.out.c0 (g := g1) (a := a1) (b := a2) (by simp)
    have k1 := hZ.out.c1 (g := g1) (a := a1) (b := a2) (by simp)
    go_wp2_with (fail)
    go_returns
    exact ⟨rfl, hZ.out.1⟩
  · obtain rfl : ok = false := by
      cases ok
      · rfl
      · exact absurd (hz.out.2.1.1 rfl) hR
    obtain ⟨vc, vt, vo, ⟨f1, f2, f3, f4⟩, g1_, g2_, g3_⟩ := hbad.out (a1, a2) hR
    clear hR hz hbad
    go_wp2_with (fail)
    obtain ⟨g1, hg1⟩ : ∃ g, w2.heap.size = g := ⟨_, rfl⟩
    obtain ⟨X, hX⟩ : ∃ X, w2.alloc (.cells #[.int .i64 a1, .int .i64 a2] 25) = X := ⟨_, rfl⟩
    rw [hg1, hX] at hZ
    rw [hX, hg1]
    clear hX hg1
    unfold A1 at f1 f2 f3 f4 g1_ g2_ g3_
    unfold zV at g1_ g2_ g3_
    simp only at f1 f2 f3 f4 g1_ g2_ g3_
    replace f1 := Lib.hid f1
    replace f2 := Lib.hid f2
    replace f3 := Lib.hid f3
    replace f4 := Lib.hid f4
    replace g1_ := Lib.hid g1_
    replace g2_ := Lib.hid g2_
    replace g3_ := Lib.hid g3_
    have k0 := hZ.out.c0 (g := g1) (a := a1) (b := a2) (by simp)
    have k1 := hZ.out.c1 (g := g1) (a := a1) (b := a2) (by simp)
    go_wp2_with (fail)
    refine (f1.out _).mono ?_
    rintro e w_ ⟨rfl, hb_⟩
    replace hZ := Lib.hid (hZ.out.bel hb_)
    clear hb_ k0 k1
    have k0 := hZ.out.c0 (g := g1) (a := a1) (b := a2) (by simp)
    have k1 := hZ.out.c1 (g := g1) (a := a1) (b := a2) (by simp)
    go_wp2_with (fail)
    refine (f2.out _).mono ?_
    rintro e w_ ⟨rfl, hb_⟩
    replace hZ := Lib.hid (hZ.out.bel hb_)
    clear hb_ k0 k1
    have k0 := hZ.out.c0 (g := g1) (a := a1) (b := a2) (by simp)
    have k1 := hZ.out.c1 (g := g1) (a := a1) (b := a2) (by simp)
    go_wp2_with (fail)
    refine (f3.out _).mono ?_
    rintro e w_ ⟨rfl, hb_⟩
    replace hZ := Lib.hid (hZ.out.bel hb_)
    clear hb_ k0 k1
    have k0 := hZ.out.c0 (g := g1) (a := a1) (b := a2) (by simp)
    have k1 := hZ.out.c1 (g := g1) (a := a1) (b := a2) (by simp)
    go_wp2_with (fail)
    refine (f4.out _).mono ?_
    rintro e w_ ⟨rfl, hb_⟩
    replace hZ := Lib.hid (hZ.out.bel hb_)
    clear hb_ k0 k1
    have k0 := hZ.out.c0 (g := g1) (a := a1) (b := a2) (by simp)
    have k1 := hZ.out.c1 (g := g1) (a := a1) (b := a2) (by simp)
    go_wp2_with (fail)
    refine (g1_.out _).mono ?_
    rintro e w_ ⟨rfl, hb_⟩
    replace hZ := Lib.hid (hZ.out.bel hb_)
    clear hb_ k0 k1
    have k0 := hZ.out.c0 (g := g1) (a := a1) (b := a2) (by simp)
    have k1 := hZ.out.c1 (g := g1) (a := a1) (b := a2) (by simp)
    go_wp2_with (fail)
    refine (rt.out _).mono ?_
    rintro e w_ ⟨rfl, hb_⟩
    replace hZ := Lib.hid (hZ.out.bel hb_)
    clear hb_ k0 k1
    have k0 := hZ.out.c0 (g := g1) (a := a1) (b := a2) (by simp)
    have k1 := hZ.out.c1 (g := g1) (a := a1) (b := a2) (by simp)
    go_wp2_with (fail)
    refine (g2_.out _).mono ?_
    rintro e w_ ⟨rfl, hb_⟩
    replace hZ := Lib.hid (hZ.out.bel hb_)
    clear hb_ k0 k1
    have k0 := hZ.out.c0 (g := g1) (a := a1) (b := a2) (by simp)
    have k1 := hZ.out.c1 (g := g1) (a := a1) (b := a2) (by simp)
    go_wp2_with (fail)
    refine (ro.out _).mono ?_
    rintro e w_ ⟨rfl, hb_⟩
    replace hZ := Lib.hid (hZ.out.bel hb_)
    clear hb_ k0 k1
    have k0 := hZ.out.c0 (g := g1) (a := a1) (b := a2) (by simp)
    have k1 := hZ.out.c1 (g := g1) (a := a1) (b := a2) (by simp)
    go_wp2_with (fail)
    refine (g3_.out _).mono ?_
    rintro e w_ ⟨rfl, hb_⟩
    replace hZ := Lib.hid (hZ.out.bel hb_)
    clear hb_ k0 k1
    have k0 := hZ.out.c0 (g := g1) (a := a1) (b := a2) (by simp)
    have k1 := hZ.out.c1 (g := g1) (a := a1) (b := a2) (by simp)
    go_wp2_with (fail)
    go_returns
    exact ⟨rfl, hZ.out.1⟩
end Go.Proofs.YtmmfjonoenmplaaDoor
