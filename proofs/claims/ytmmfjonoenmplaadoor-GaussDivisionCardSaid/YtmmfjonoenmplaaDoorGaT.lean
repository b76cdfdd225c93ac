import Derived.Test.YtmmfjonoenmplaaDoorGaS
namespace Go.Proofs.YtmmfjonoenmplaaDoor
open Go.RowKit Go.Extern.Stop Go.Stop Go.Extern
set_option linter.unusedVariables false
set_option linter.unusedSimpArgs false
/-! the walk of GaussDivision -/
set_option maxRecDepth 100000 in
set_option maxHeartbeats 8000000 in
theorem walk_division (a0 a1 b0 b1 c0 c1 : Int) (w : World) (hT : Tab w)
    (ha0 : -9223372036854775808 ≤ a0 ∧ a0 ≤ 9223372036854775807) (ha1 : -9223372036854775808 ≤ a1 ∧ a1 ≤ 9223372036854775807)
    (hb0 : -9223372036854775808 ≤ b0 ∧ b0 ≤ 9223372036854775807) (hb1 : -9223372036854775808 ≤ b1 ∧ b1 ≤ 9223372036854775807)
    (hc0 : -9223372036854775808 ≤ c0 ∧ c0 ≤ 9223372036854775807) (hc1 : -9223372036854775808 ≤ c1 ∧ c1 ≤ 9223372036854775807) :
    Calls Tryd.prog 7 #[.agg #[.int .i64 a0, .int .i64 a1], .agg #[.int .i64 b0, .int .i64 b1], .agg #[.int .i64 c0, .int .i64 c1]] w fun e w' => e = .returned (.bool true) ∧ Below w.heap.size w w' := by
  have hsh := Lib.hid (fun W (h : Tab W) => shown_any W h)
  have hm1 := Lib.hid (fun W => made_any a0 a1 2000 ha0 ha1 (by decide) W)
  have hm2 := Lib.hid (fun W => made_any b0 b1 2000 hb0 hb1 (by decide) W)
  have hm3 := Lib.hid (fun W => made_any c0 c1 2000 hc0 hc1 (by decide) W)
  have hP := ((Ps.none w).made a0 a1).made b0 b1 |>.made c0 c1
  simp only [World.size_alloc] at hP
  have hT' := Lib.hid (hT.bel hP.1)
  replace hP := Lib.hid hP
  clear ha0 ha1 hb0 hb1 hc0 hc1 hT
  go_enter Tryd.func7, Tryd.ntmps7
  go_wp2_with (fail)
  refine (hsh.out _ hT'.out).mono ?_
  rintro e W ⟨rfl, hb_⟩
  replace hP := Lib.hid (hP.out.bel hb_)
  clear hb_ hT' hsh
  obtain ⟨g, hg⟩ : ∃ g, w.heap.size = g := ⟨_, rfl⟩
  rw [hg] at hP ⊢
  have k00 := hP.out.c0 (g := g) (a := a0) (b := a1) (by simp)
  have k01 := hP.out.c1 (g := g) (a := a0) (b := a1) (by simp)
  have k10 := hP.out.c0 (g := g + 1) (a := b0) (b := b1) (by simp)
  have k11 := hP.out.c1 (g := g + 1) (a := b0) (b := b1) (by simp)
  have k20 := hP.out.c0 (g := g + 1 + 1) (a := c0) (b := c1) (by simp)
  have k21 := hP.out.c1 (g := g + 1 + 1) (a := c0) (b := c1) (by simp)
  have hB := Lib.hid hP.out.1
  clear hP
  go_wp2_with (fail)
  refine (hm1.out _).mono ?_
  rintro e w_ ⟨⟨x, rfl, hx⟩, hw_⟩
  replace hx := Lib.hid hx
  have hw_ := hw_.symm
  subst hw_
  go_wp2_with (fail)
  refine (hm2.out _).mono ?_
  rintro e w_ ⟨⟨y, rfl, hy⟩, hw_⟩
  replace hy := Lib.hid hy
  have hw_ := hw_.symm
  subst hw_
  go_wp2_with (fail)
  refine (hm3.out _).mono ?_
  rintro e w_ ⟨⟨z, rfl, hz⟩, hw_⟩
  replace hz := Lib.hid hz
  have hw_ := hw_.symm
  subst hw_
  clear k00 k01 k10 k11 k20 k21 hm1 hm2 hm3
  have m2 : (2000 : Int) ≤ 16777216 := by decide
  obtain ⟨xz, yz, d, f1, f2, f3, hc⟩ := part2_facts x y z hx.out hy.out hz.out
  have hp1 := fun h0 => part1_facts x y hx.out hy.out h0
  obtain ⟨xr, xi, ex, ox, ux⟩ := cx_cw x (sm_mono hx.out m2)
  obtain ⟨yr, yi, ey, ty⟩ := zt_cw (sm_mono hy.out m2)
  obtain ⟨zr, zi, ez, tz⟩ := zt_cw (sm_mono hz.out m2)
  rw [ex] at f1 hp1
  rw [ey] at f2 hp1
  rw [ez] at f1 f2 hc
  rw [ex, ey, ez]
  unfold C2 at f1 f2 f3
  replace f1 := Lib.hid f1
  replace f2 := Lib.hid f2
  replace f3 := Lib.hid f3
  clear ex ey ez hx hy hz m2
  by_cases hy0 : y = (0, 0)
  · rw [decide_eq_true hy0] at ty
    clear hp1 hy0
    rcases hc with ⟨⟨dr, di, rfl, td⟩, ⟨ar, ai, rfl, ta⟩, ⟨br, bi, rfl, tb⟩⟩ | ⟨⟨dr, di, rfl, l1, l2, l3⟩, ⟨qa, g1⟩, ⟨qb, g2⟩, g3⟩
    · skip
      go_wp2_with (fail)
      refine (f1.out _).mono ?_
      rintro e w_ ⟨rfl, hb_⟩
      replace hB := Lib.hid (hB.out.trans (hb_.mono hB.out.size))
      clear hb_
      go_wp2_with (fail)
      refine (f2.out _).mono ?_
      rintro e w_ ⟨rfl, hb_⟩
      replace hB := Lib.hid (hB.out.trans (hb_.mono hB.out.size))
      clear hb_
      go_wp2_with (fail)
      refine (f3.out _).mono ?_
      rintro e w_ ⟨rfl, hb_⟩
      replace hB := Lib.hid (hB.out.trans (hb_.mono hB.out.size))
      clear hb_
      go_wp2_with (fail)
      go_returns
      exact ⟨rfl, hB.out⟩
    · have zz : (FloatKind.f64.format.order 0 0 == some .eq) = true := by decide +kernel
      unfold C3 at g1 g2
      replace g1 := Lib.hid g1
      replace g2 := Lib.hid g2
      by_cases hz0 : z = (0, 0)
      · rw [decide_eq_true hz0] at tz
        clear g3 hz0
        go_wp2_with (fail)
        refine (f1.out _).mono ?_
        rintro e w_ ⟨rfl, hb_⟩
        replace hB := Lib.hid (hB.out.trans (hb_.mono hB.out.size))
        clear hb_
        go_wp2_with (fail)
        refine (f2.out _).mono ?_
        rintro e w_ ⟨rfl, hb_⟩
        replace hB := Lib.hid (hB.out.trans (hb_.mono hB.out.size))
        clear hb_
        go_wp2_with (fail)
        refine (f3.out _).mono ?_
        rintro e w_ ⟨rfl, hb_⟩
        replace hB := Lib.hid (hB.out.trans (hb_.mono hB.out.size))
        clear hb_
        go_wp2_with (fail)
        refine (g1.out _).mono ?_
        rintro e w_ ⟨rfl, hb_⟩
        replace hB := Lib.hid (hB.out.trans (hb_.mono hB.out.size))
        clear hb_
        go_wp2_with (fail)
        refine (g2.out _).mono ?_
        rintro e w_ ⟨rfl, hb_⟩
        replace hB := Lib.hid (hB.out.trans (hb_.mono hB.out.size))
        clear hb_
        go_wp2_with (fail)
        go_returns
        exact ⟨rfl, hB.out⟩
      · rw [decide_eq_false hz0] at tz
        obtain ⟨qz, g3⟩ := g3 hz0
        unfold C3 at g3
        replace g3 := Lib.hid g3
        clear hz0
        go_wp2_with (fail)
        refine (f1.out _).mono ?_
        rintro e w_ ⟨rfl, hb_⟩
        replace hB := Lib.hid (hB.out.trans (hb_.mono hB.out.size))
        clear hb_
        go_wp2_with (fail)
        refine (f2.out _).mono ?_
        rintro e w_ ⟨rfl, hb_⟩
        replace hB := Lib.hid (hB.out.trans (hb_.mono hB.out.size))
        clear hb_
        go_wp2_with (fail)
        refine (f3.out _).mono ?_
        rintro e w_ ⟨rfl, hb_⟩
        replace hB := Lib.hid (hB.out.trans (hb_.mono hB.out.size))
        clear hb_
        go_wp2_with (fail)
        refine (g1.out _).mono ?_
        rintro e w_ ⟨rfl, hb_⟩
        replace hB := Lib.hid (hB.out.trans (hb_.mono hB.out.size))
        clear hb_
        go_wp2_with (fail)
        refine (g2.out _).mono ?_
        rintro e w_ ⟨rfl, hb_⟩
        replace hB := Lib.hid (hB.out.trans (hb_.mono hB.out.size))
        clear hb_
        go_wp2_with (fail)
        refine (g3.out _).mono ?_
        rintro e w_ ⟨rfl, hb_⟩
        replace hB := Lib.hid (hB.out.trans (hb_.mono hB.out.size))
        clear hb_
        go_wp2_with (fail)
        go_returns
        exact ⟨rfl, hB.out⟩
  · rw [decide_eq_false hy0] at ty
    obtain ⟨q, r, p, m, n, p1, p2, p3, p4, p5, hm0, hmn, hn8⟩ := hp1 hy0
    unfold C3 at p1
    unfold C2 at p2 p3
    unfold C1 at p4 p5
    replace p1 := Lib.hid p1
    replace p2 := Lib.hid p2
    replace p3 := Lib.hid p3
    replace p4 := Lib.hid p4
    replace p5 := Lib.hid p5
    have wm : IntKind.i64.wrap (2 * m) = 2 * m := by rw [IntKind.wrap_i64]; omega
    have hgt : decide (2 * m > n) = false := by simp; omega
    have hgt2 : decide (n < 2 * m) = false := by simp; omega
    clear hy0 hp1 hm0 hn8
    rcases hc with ⟨⟨dr, di, rfl, td⟩, ⟨ar, ai, rfl, ta⟩, ⟨br, bi, rfl, tb⟩⟩ | ⟨⟨dr, di, rfl, l1, l2, l3⟩, ⟨qa, g1⟩, ⟨qb, g2⟩, g3⟩
    · skip
      go_wp2_with (fail)
      refine (p1.out _).mono ?_
      rintro e w_ ⟨rfl, hb_⟩
      replace hB := Lib.hid (hB.out.trans (hb_.mono hB.out.size))
      clear hb_
      go_wp2_with (fail)
      refine (p2.out _).mono ?_
      rintro e w_ ⟨rfl, hb_⟩
      replace hB := Lib.hid (hB.out.trans (hb_.mono hB.out.size))
      clear hb_
      go_wp2_with (fail)
      refine (p3.out _).mono ?_
      rintro e w_ ⟨rfl, hb_⟩
      replace hB := Lib.hid (hB.out.trans (hb_.mono hB.out.size))
      clear hb_
      go_wp2_with (fail)
      refine (p4.out _).mono ?_
      rintro e w_ ⟨rfl, hb_⟩
      replace hB := Lib.hid (hB.out.trans (hb_.mono hB.out.size))
      clear hb_
      go_wp2_with (fail)
      refine (p5.out _).mono ?_
      rintro e w_ ⟨rfl, hb_⟩
      replace hB := Lib.hid (hB.out.trans (hb_.mono hB.out.size))
      clear hb_
      go_wp2_with (fail)
      refine (f1.out _).mono ?_
      rintro e w_ ⟨rfl, hb_⟩
      replace hB := Lib.hid (hB.out.trans (hb_.mono hB.out.size))
      clear hb_
      go_wp2_with (fail)
      refine (f2.out _).mono ?_
      rintro e w_ ⟨rfl, hb_⟩
      replace hB := Lib.hid (hB.out.trans (hb_.mono hB.out.size))
      clear hb_
      go_wp2_with (fail)
      refine (f3.out _).mono ?_
      rintro e w_ ⟨rfl, hb_⟩
      replace hB := Lib.hid (hB.out.trans (hb_.mono hB.out.size))
      clear hb_
      go_wp2_with (fail)
      go_returns
      exact ⟨rfl, hB.out⟩
    · have zz : (FloatKind.f64.format.order 0 0 == some .eq) = true := by decide +kernel
      unfold C3 at g1 g2
      replace g1 := Lib.hid g1
      replace g2 := Lib.hid g2
      by_cases hz0 : z = (0, 0)
      · rw [decide_eq_true hz0] at tz
        clear g3 hz0
        go_wp2_with (fail)
        refine (p1.out _).mono ?_
        rintro e w_ ⟨rfl, hb_⟩
        replace hB := Lib.hid (hB.out.trans (hb_.mono hB.out.size))
        clear hb_
        go_wp2_with (fail)
        refine (p2.out _).mono ?_
        rintro e w_ ⟨rfl, hb_⟩
        replace hB := Lib.hid (hB.out.trans (hb_.mono hB.out.size))
        clear hb_
        go_wp2_with (fail)
        refine (p3.out _).mono ?_
        rintro e w_ ⟨rfl, hb_⟩
        replace hB := Lib.hid (hB.out.trans (hb_.mono hB.out.size))
        clear hb_
        go_wp2_with (fail)
        refine (p4.out _).mono ?_
        rintro e w_ ⟨rfl, hb_⟩
        replace hB := Lib.hid (hB.out.trans (hb_.mono hB.out.size))
        clear hb_
        go_wp2_with (fail)
        refine (p5.out _).mono ?_
        rintro e w_ ⟨rfl, hb_⟩
        replace hB := Lib.hid (hB.out.trans (hb_.mono hB.out.size))
        clear hb_
        go_wp2_with (fail)
        refine (f1.out _).mono ?_
        rintro e w_ ⟨rfl, hb_⟩
        replace hB := Lib.hid (hB.out.trans (hb_.mono hB.out.size))
        clear hb_
        go_wp2_with (fail)
        refine (f2.out _).mono ?_
        rintro e w_ ⟨rfl, hb_⟩
        replace hB := Lib.hid (hB.out.trans (hb_.mono hB.out.size))
        clear hb_
        go_wp2_with (fail)
        refine (f3.out _).mono ?_
        rintro e w_ ⟨rfl, hb_⟩
        replace hB := Lib.hid (hB.out.trans (hb_.mono hB.out.size))
        clear hb_
        go_wp2_with (fail)
        refine (g1.out _).mono ?_
        rintro e w_ ⟨rfl, hb_⟩
        replace hB := Lib.hid (hB.out.trans (hb_.mono hB.out.size))
        clear hb_
        go_wp2_with (fail)
        refine (g2.out _).mono ?_
        rintro e w_ ⟨rfl, hb_⟩
        replace hB := Lib.hid (hB.out.trans (hb_.mono hB.out.size))
        clear hb_
        go_wp2_with (fail)
        go_returns
        exact ⟨rfl, hB.out⟩
      · rw [decide_eq_false hz0] at tz
        obtain ⟨qz, g3⟩ := g3 hz0
        unfold C3 at g3
        replace g3 := Lib.hid g3
        clear hz0
        go_wp2_with (fail)
        refine (p1.out _).mono ?_
        rintro e w_ ⟨rfl, hb_⟩
        replace hB := Lib.hid (hB.out.trans (hb_.mono hB.out.size))
        clear hb_
        go_wp2_with (fail)
        refine (p2.out _).mono ?_
        rintro e w_ ⟨rfl, hb_⟩
        replace hB := Lib.hid (hB.out.trans (hb_.mono hB.out.size))
        clear hb_
        go_wp2_with (fail)
        refine (p3.out _).mono ?_
        rintro e w_ ⟨rfl, hb_⟩
        replace hB := Lib.hid (hB.out.trans (hb_.mono hB.out.size))
        clear hb_
        go_wp2_with (fail)
        refine (p4.out _).mono ?_
        rintro e w_ ⟨rfl, hb_⟩
        replace hB := Lib.hid (hB.out.trans (hb_.mono hB.out.size))
        clear hb_
        go_wp2_with (fail)
        refine (p5.out _).mono ?_
        rintro e w_ ⟨rfl, hb_⟩
        replace hB := Lib.hid (hB.out.trans (hb_.mono hB.out.size))
        clear hb_
        go_wp2_with (fail)
        refine (f1.out _).mono ?_
        rintro e w_ ⟨rfl, hb_⟩
        replace hB := Lib.hid (hB.out.trans (hb_.mono hB.out.size))
        clear hb_
        go_wp2_with (fail)
        refine (f2.out _).mono ?_
        rintro e w_ ⟨rfl, hb_⟩
        replace hB := Lib.hid (hB.out.trans (hb_.mono hB.out.size))
        clear hb_
        go_wp2_with (fail)
        refine (f3.out _).mono ?_
        rintro e w_ ⟨rfl, hb_⟩
        replace hB := Lib.hid (hB.out.trans (hb_.mono hB.out.size))
        clear hb_
        go_wp2_with (fail)
        refine (g1.out _).mono ?_
        rintro e w_ ⟨rfl, hb_⟩
        replace hB := Lib.hid (hB.out.trans (hb_.mono hB.out.size))
        clear hb_
        go_wp2_with (fail)
        refine (g2.out _).mono ?_
        rintro e w_ ⟨rfl, hb_⟩
        replace hB := Lib.hid (hB.out.trans (hb_.mono hB.out.size))
        clear hb_
        go_wp2_with (fail)
        refine (g3.out _).mono ?_
        rintro e w_ ⟨rfl, hb_⟩
        replace hB := Lib.hid (hB.out.trans (hb_.mono hB.out.size))
        clear hb_
        go_wp2_with (fail)
        go_returns
        exact ⟨rfl, hB.out⟩
end Go.Proofs.YtmmfjonoenmplaaDoor
