import Derived.Test.YtmmfjonoenmplaaDoorGaZc
namespace Go.Proofs.YtmmfjonoenmplaaDoor
open Go.RowKit Go.Extern.Stop Go.Stop Go.Extern
set_option linter.unusedVariables false
set_option linter.unusedSimpArgs false
/-! the walk of GaussDivides -/
set_option maxRecDepth 100000 in
set_option maxHeartbeats 4000000 in
theorem walk_divides (x1 x2 y1 y2 : Nat) (w : World) (hT : Tab w) (h1 : x1 < 18446744073709551616) (h2 : x2 < 18446744073709551616) (h3 : y1 < 18446744073709551616) (h4 : y2 < 18446744073709551616) :
    Calls Tryd.prog 3 #[.float .f64 x1, .float .f64 x2, .float .f64 y1, .float .f64 y2] w fun e w' => e = .returned (.bool true) ∧ Below w.heap.size w w' := by
  have hsh := Lib.hid (shown_any w hT)
  have hof1 := Lib.hid (fun w => rof_any (x1, x2) ⟨h1, h2⟩ w)
  have hof2 := Lib.hid (fun w => rof_any (y1, y2) ⟨h3, h4⟩ w)
  have hbad := Lib.hid (fun hno => (⟨fun w => div_bad (x1, x2) (y1, y2) ⟨h1, h2⟩ ⟨h3, h4⟩ hno w, fun w => gcd_bad (x1, x2) (y1, y2) ⟨h1, h2⟩ ⟨h3, h4⟩ hno w⟩ : _ ∧ _))
  clear h1 h2 h3 h4 hT
  go_enter Tryd.func3, Tryd.ntmps3
  go_wp2_with (fail)
  refine hsh.out.mono ?_
  rintro e w1 ⟨rfl, hb_⟩
  have hZ : Hid (Zs w w1 []) := Lib.hid ⟨hb_, fun x hx => by cases hx⟩
  clear hb_ hsh
  go_wp2_with (fail)
  refine (hof1.out _).mono ?_
  rintro e w2 ⟨⟨a1, a2⟩, ok1, rfl, ha, hb_⟩
  replace hZ := Lib.hid (hZ.out.bel hb_)
  clear hb_
  unfold zV
  replace ha := Lib.hid ha
  go_wp2_with (fail)
  replace hZ := Lib.hid (hZ.out.made a1 a2)
  obtain ⟨g1, hg1⟩ : ∃ g, w2.heap.size = g := ⟨_, rfl⟩
  obtain ⟨X2, hX2⟩ : ∃ X, w2.alloc (.cells #[.int .i64 a1, .int .i64 a2] 25) = X := ⟨_, rfl⟩
  rw [hg1, hX2] at hZ
  rw [hX2, hg1]
  clear hX2 hg1
  refine (hof2.out _).mono ?_
  rintro e w3 ⟨⟨b1, b2⟩, ok2, rfl, hb, hb_⟩
  replace hZ := Lib.hid (hZ.out.bel hb_)
  clear hb_
  unfold zV
  replace hb := Lib.hid hb
  replace hZ := Lib.hid (hZ.out.made b1 b2)
  go_wp2_with (fail)
  obtain ⟨g2, hg2⟩ : ∃ g, w3.heap.size = g := ⟨_, rfl⟩
  obtain ⟨X3, hX3⟩ : ∃ X, w3.alloc (.cells #[.int .i64 b1, .int .i64 b2] 25) = X := ⟨_, rfl⟩
  rw [hg2, hX3] at hZ
  rw [hX3, hg2]
  clear hX3 hg2 hof1 hof2
  by_cases hR : (Rt x1 ∧ Rt x2) ∧ (Rt y1 ∧ Rt y2)
  · obtain ⟨hR1, hR2⟩ := hR
    obtain ⟨c, hc1, hc2⟩ := rt_nm (x := (x1, x2)) hR1
    obtain ⟨d, hd1, hd2⟩ := rt_nm (x := (y1, y2)) hR2
    obtain rfl : ok1 = true := ha.out.2.1.2 hR1
    obtain rfl : ok2 = true := hb.out.2.1.2 hR2
    obtain rfl : (a1, a2) = c := ha.out.2.2 c hc1 hc2
    obtain rfl : (b1, b2) = d := hb.out.2.2 d hd1 hd2
    have qg := fun w => gcd_ok (x1, x2) (y1, y2) (a1, a2) (b1, b2) hc1 hd1 hc2 hd2 w
    have rg := fun w => rgcd_any (a1, a2) (b1, b2) hc2 hd2 w
    have hgs := gcd_sm (a := (a1, a2)) (b := (b1, b2)) hc2 hd2
    have ag := fun w => answers_ok (firstZ (gcdZ (a1, a2) (b1, b2))) (sm_mono hgs (by decide)) w
    obtain ⟨G, hG⟩ : ∃ G, firstZ (gcdZ (a1, a2) (b1, b2)) = G := ⟨_, rfl⟩
    simp only [hG] at qg rg ag
    obtain ⟨vg, hvg⟩ : ∃ v, cw G = v := ⟨_, rfl⟩
    rw [hvg] at ag
    simp only [hvg] at qg
    unfold zV at rg ag
    simp only at rg qg ag
    replace qg := Lib.hid qg
    replace rg := Lib.hid rg
    replace ag := Lib.hid ag
    clear hgs hG hvg
    by_cases h0 : (b1, b2) = ((0, 0) : Int × Int)
    · have e1 : b1 = 0 := congrArg Prod.fst h0
      have e2 : b2 = 0 := congrArg Prod.snd h0
      subst e1
      subst e2
      have qd := fun w => div_zero (x1, x2) (y1, y2) (a1, a2) hc1 hd1 hc2 w
      have er := Lib.hid (fun w => answers_err (a1, a2) 9 (by decide) w)
      unfold zV at er
      simp only at er qd
      replace qd := Lib.hid qd
      clear hR1 hR2 hc1 hc2 hd1 hd2 ha hb hbad h0
      have k10 := hZ.out.c0 (g := g1) (a := a1) (b := a2) (by simp)
      have k11 := hZ.out.c1 (g := g1) (a := a1) (b := a2) (by simp)
      have k20 := hZ.out.c0 (g := g2) (a := 0) (b := 0) (by simp)
      have k21 := hZ.out.c1 (g := g2) (a := 0) (b := 0) (by simp)
      go_wp2_with (fail)
      refine (qd.out _).mono ?_
      rintro e w7 ⟨rfl, hb_⟩
      replace hZ := Lib.hid (hZ.out.bel hb_)
      clear hb_
      clear k10 k11 k20 k21
      have k10 := hZ.out.c0 (g := g1) (a := a1) (b := a2) (by simp)
      have k11 := hZ.out.c1 (g := g1) (a := a1) (b := a2) (by simp)
      have k20 := hZ.out.c0 (g := g2) (a := 0) (b := 0) (by simp)
      have k21 := hZ.out.c1 (g := g2) (a := 0) (b := 0) (by simp)
      go_wp2_with (fail)
      refine (qg.out _).mono ?_
      rintro e w7 ⟨rfl, hb_⟩
      replace hZ := Lib.hid (hZ.out.bel hb_)
      clear hb_
      clear k10 k11 k20 k21
      have k10 := hZ.out.c0 (g := g1) (a := a1) (b := a2) (by simp)
      have k11 := hZ.out.c1 (g := g1) (a := a1) (b := a2) (by simp)
      have k20 := hZ.out.c0 (g := g2) (a := 0) (b := 0) (by simp)
      have k21 := hZ.out.c1 (g := g2) (a := 0) (b := 0) (by simp)
      go_wp2_with (fail)
      refine (rg.out _).mono ?_
      rintro e w7 ⟨rfl, hb_⟩
      replace hZ := Lib.hid (hZ.out.bel hb_)
      clear hb_
      clear k10 k11 k20 k21
      have k10 := hZ.out.c0 (g := g1) (a := a1) (b := a2) (by simp)
      have k11 := hZ.out.c1 (g := g1) (a := a1) (b := a2) (by simp)
      have k20 := hZ.out.c0 (g := g2) (a := 0) (b := 0) (by simp)
      have k21 := hZ.out.c1 (g := g2) (a := 0) (b := 0) (by simp)
      go_wp2_with (fail)
      refine (ag.out _).mono ?_
      rintro e w7 ⟨rfl, hb_⟩
      replace hZ := Lib.hid (hZ.out.bel hb_)
      clear hb_
      clear k10 k11 k20 k21
      have k10 := hZ.out.c0 (g := g1) (a := a1) (b := a2) (by simp)
      have k11 := hZ.out.c1 (g := g1) (a := a1) (b := a2) (by simp)
      have k20 := hZ.out.c0 (g := g2) (a := 0) (b := 0) (by simp)
      have k21 := hZ.out.c1 (g := g2) (a := 0) (b := 0) (by simp)
      go_wp2_with (fail)
      refine (er.out _).mono ?_
      rintro e w7 ⟨rfl, hb_⟩
      replace hZ := Lib.hid (hZ.out.bel hb_)
      clear hb_
      clear k10 k11 k20 k21
      have k10 := hZ.out.c0 (g := g1) (a := a1) (b := a2) (by simp)
      have k11 := hZ.out.c1 (g := g1) (a := a1) (b := a2) (by simp)
      have k20 := hZ.out.c0 (g := g2) (a := 0) (b := 0) (by simp)
      have k21 := hZ.out.c1 (g := g2) (a := 0) (b := 0) (by simp)
      go_wp2_with (fail)
      refine (er.out _).mono ?_
      rintro e w7 ⟨rfl, hb_⟩
      replace hZ := Lib.hid (hZ.out.bel hb_)
      clear hb_
      clear k10 k11 k20 k21
      have k10 := hZ.out.c0 (g := g1) (a := a1) (b := a2) (by simp)
      have k11 := hZ.out.c1 (g := g1) (a := a1) (b := a2) (by simp)
      have k20 := hZ.out.c0 (g := g2) (a := 0) (b := 0) (by simp)
      have k21 := hZ.out.c1 (g := g2) (a := 0) (b := 0) (by simp)
      go_wp2_with (fail)
      go_returns
      exact ⟨rfl, hZ.out.1⟩
    · have qd := fun w => div_ok (x1, x2) (y1, y2) (a1, a2) (b1, b2) hc1 hd1 hc2 hd2 h0 w
      have rd := fun w => rdiv_any (a1, a2) (b1, b2) hc2 hd2 h0 w
      have sq := divQ_le (a := (a1, a2)) (b := (b1, b2)) (by decide) hc2 h0
      have sr := divR_sm (a := (a1, a2)) h0 hd2
      have aq := fun w => answers_ok (divQ (a1, a2) (b1, b2)) (sm_mono sq (by decide)) w
      have ar := fun w => answers_ok (divR (a1, a2) (b1, b2)) (sm_mono sr (by decide)) w
      obtain ⟨⟨q1, q2⟩, hq⟩ : ∃ q, divQ (a1, a2) (b1, b2) = q := ⟨_, rfl⟩
      obtain ⟨⟨r1, r2⟩, hr⟩ : ∃ r, divR (a1, a2) (b1, b2) = r := ⟨_, rfl⟩
      simp only [hq, hr] at qd rd aq ar
      obtain ⟨vq, hvq⟩ : ∃ v, cw (q1, q2) = v := ⟨_, rfl⟩
      obtain ⟨vr, hvr⟩ : ∃ v, cw (r1, r2) = v := ⟨_, rfl⟩
      simp only [hvq, hvr] at qd aq ar
      unfold zV at rd aq ar
      simp only at rd aq ar
      have t0 : ¬ (b1 = 0 ∧ b2 = 0) := fun h => h0 (Prod.ext h.1 h.2)
      replace qd := Lib.hid qd
      replace rd := Lib.hid rd
      replace aq := Lib.hid aq
      replace ar := Lib.hid ar
      replace h0 := Lib.hid h0
      clear hR1 hR2 hc1 hc2 hd1 hd2 ha hb hbad sq sr hq hr hvq hvr
      have k10 := hZ.out.c0 (g := g1) (a := a1) (b := a2) (by simp)
      have k11 := hZ.out.c1 (g := g1) (a := a1) (b := a2) (by simp)
      have k20 := hZ.out.c0 (g := g2) (a := b1) (b := b2) (by simp)
      have k21 := hZ.out.c1 (g := g2) (a := b1) (b := b2) (by simp)
      go_wp2_with (fail)
      refine (qd.out _).mono ?_
      rintro e w7 ⟨rfl, hb_⟩
      replace hZ := Lib.hid (hZ.out.bel hb_)
      clear hb_
      clear k10 k11 k20 k21
      have k10 := hZ.out.c0 (g := g1) (a := a1) (b := a2) (by simp)
      have k11 := hZ.out.c1 (g := g1) (a := a1) (b := a2) (by simp)
      have k20 := hZ.out.c0 (g := g2) (a := b1) (b := b2) (by simp)
      have k21 := hZ.out.c1 (g := g2) (a := b1) (b := b2) (by simp)
      go_wp2_with (fail)
      refine (qg.out _).mono ?_
      rintro e w7 ⟨rfl, hb_⟩
      replace hZ := Lib.hid (hZ.out.bel hb_)
      clear hb_
      clear k10 k11 k20 k21
      have k10 := hZ.out.c0 (g := g1) (a := a1) (b := a2) (by simp)
      have k11 := hZ.out.c1 (g := g1) (a := a1) (b := a2) (by simp)
      have k20 := hZ.out.c0 (g := g2) (a := b1) (b := b2) (by simp)
      have k21 := hZ.out.c1 (g := g2) (a := b1) (b := b2) (by simp)
      go_wp2_with (fail)
      refine (rg.out _).mono ?_
      rintro e w7 ⟨rfl, hb_⟩
      replace hZ := Lib.hid (hZ.out.bel hb_)
      clear hb_
      clear k10 k11 k20 k21
      have k10 := hZ.out.c0 (g := g1) (a := a1) (b := a2) (by simp)
      have k11 := hZ.out.c1 (g := g1) (a := a1) (b := a2) (by simp)
      have k20 := hZ.out.c0 (g := g2) (a := b1) (b := b2) (by simp)
      have k21 := hZ.out.c1 (g := g2) (a := b1) (b := b2) (by simp)
      go_wp2_with (fail)
      refine (ag.out _).mono ?_
      rintro e w7 ⟨rfl, hb_⟩
      replace hZ := Lib.hid (hZ.out.bel hb_)
      clear hb_
      clear k10 k11 k20 k21
      have k10 := hZ.out.c0 (g := g1) (a := a1) (b := a2) (by simp)
      have k11 := hZ.out.c1 (g := g1) (a := a1) (b := a2) (by simp)
      have k20 := hZ.out.c0 (g := g2) (a := b1) (b := b2) (by simp)
      have k21 := hZ.out.c1 (g := g2) (a := b1) (b := b2) (by simp)
      by_cases hb1 : b1 = 0
      · have hb2 : ¬ b2 = 0 := fun h => t0 ⟨hb1, h⟩
        have u1 : (b1 == 0) = true := by simpa using hb1
        have u2 : (b2 == 0) = false := by simpa using hb2
        replace hb1 := Lib.hid hb1
        replace hb2 := Lib.hid hb2
        replace t0 := Lib.hid t0
        go_wp2_with (fail)
        refine (rd.out _).mono ?_
        rintro e w8 ⟨rfl, hb_⟩
        replace hZ := Lib.hid (((hZ.out.bel hb_).made q1 q2).made r1 r2)
        simp only [World.size_alloc] at hZ
        clear hb_ k10 k11 k20 k21
        have k30 := hZ.out.c0 (g := w8.heap.size) (a := q1) (b := q2) (by simp)
        have k31 := hZ.out.c1 (g := w8.heap.size) (a := q1) (b := q2) (by simp)
        have k40 := hZ.out.c0 (g := w8.heap.size + 1) (a := r1) (b := r2) (by simp)
        have k41 := hZ.out.c1 (g := w8.heap.size + 1) (a := r1) (b := r2) (by simp)
        go_wp2_with (fail)
        refine (aq.out _).mono ?_
        rintro e w9 ⟨rfl, hb_⟩
        replace hZ := Lib.hid (hZ.out.bel hb_)
        clear hb_
        clear k30 k31 k40 k41
        have k40 := hZ.out.c0 (g := w8.heap.size + 1) (a := r1) (b := r2) (by simp)
        have k41 := hZ.out.c1 (g := w8.heap.size + 1) (a := r1) (b := r2) (by simp)
        go_wp2_with (fail)
        refine (ar.out _).mono ?_
        rintro e w10 ⟨rfl, hb_⟩
        replace hZ := Lib.hid (hZ.out.bel hb_)
        clear hb_
        go_wp2_with (fail)
        go_returns
        exact ⟨rfl, hZ.out.1⟩
      · have u1 : (b1 == 0) = false := by simpa using hb1
        replace hb1 := Lib.hid hb1
        replace t0 := Lib.hid t0
        go_wp2_with (fail)
        refine (rd.out _).mono ?_
        rintro e w8 ⟨rfl, hb_⟩
        replace hZ := Lib.hid (((hZ.out.bel hb_).made q1 q2).made r1 r2)
        simp only [World.size_alloc] at hZ
        clear hb_ k10 k11 k20 k21
        have k30 := hZ.out.c0 (g := w8.heap.size) (a := q1) (b := q2) (by simp)
        have k31 := hZ.out.c1 (g := w8.heap.size) (a := q1) (b := q2) (by simp)
        have k40 := hZ.out.c0 (g := w8.heap.size + 1) (a := r1) (b := r2) (by simp)
        have k41 := hZ.out.c1 (g := w8.heap.size + 1) (a := r1) (b := r2) (by simp)
        go_wp2_with (fail)
        refine (aq.out _).mono ?_
        rintro e w9 ⟨rfl, hb_⟩
        replace hZ := Lib.hid (hZ.out.bel hb_)
        clear hb_
        clear k30 k31 k40 k41
        have k40 := hZ.out.c0 (g := w8.heap.size + 1) (a := r1) (b := r2) (by simp)
        have k41 := hZ.out.c1 (g := w8.heap.size + 1) (a := r1) (b := r2) (by simp)
        go_wp2_with (fail)
        refine (ar.out _).mono ?_
        rintro e w10 ⟨rfl, hb_⟩
        replace hZ := Lib.hid (hZ.out.bel hb_)
        clear hb_
        go_wp2_with (fail)
        go_returns
        exact ⟨rfl, hZ.out.1⟩
  · obtain ⟨qd, qg⟩ := hbad.out hR
    replace qd := Lib.hid qd
    have er := Lib.hid (fun w => answers_err (a1, a2) 1 (by decide) w)
    have hno : ¬ (ok1 = true ∧ ok2 = true) := fun ⟨i, j⟩ => hR ⟨ha.out.2.1.1 i, hb.out.2.1.1 j⟩
    unfold zV at er
    unfold bad at qg
    simp only at er qg
    replace qg := Lib.hid qg
    clear ha hb hbad hR
    cases ok1
    · clear hno
      have k10 := hZ.out.c0 (g := g1) (a := a1) (b := a2) (by simp)
      have k11 := hZ.out.c1 (g := g1) (a := a1) (b := a2) (by simp)
      have k20 := hZ.out.c0 (g := g2) (a := b1) (b := b2) (by simp)
      have k21 := hZ.out.c1 (g := g2) (a := b1) (b := b2) (by simp)
      go_wp2_with (fail)
      refine (qd.out _).mono ?_
      rintro e w7 ⟨rfl, hb_⟩
      replace hZ := Lib.hid (hZ.out.bel hb_)
      clear hb_
      clear k10 k11 k20 k21
      have k10 := hZ.out.c0 (g := g1) (a := a1) (b := a2) (by simp)
      have k11 := hZ.out.c1 (g := g1) (a := a1) (b := a2) (by simp)
      have k20 := hZ.out.c0 (g := g2) (a := b1) (b := b2) (by simp)
      have k21 := hZ.out.c1 (g := g2) (a := b1) (b := b2) (by simp)
      go_wp2_with (fail)
      refine (qg.out _).mono ?_
      rintro e w7 ⟨rfl, hb_⟩
      replace hZ := Lib.hid (hZ.out.bel hb_)
      clear hb_
      clear k10 k11 k20 k21
      have k10 := hZ.out.c0 (g := g1) (a := a1) (b := a2) (by simp)
      have k11 := hZ.out.c1 (g := g1) (a := a1) (b := a2) (by simp)
      have k20 := hZ.out.c0 (g := g2) (a := b1) (b := b2) (by simp)
      have k21 := hZ.out.c1 (g := g2) (a := b1) (b := b2) (by simp)
      go_wp2_with (fail)
      refine (er.out _).mono ?_
      rintro e w7 ⟨rfl, hb_⟩
      replace hZ := Lib.hid (hZ.out.bel hb_)
      clear hb_
      clear k10 k11 k20 k21
      have k10 := hZ.out.c0 (g := g1) (a := a1) (b := a2) (by simp)
      have k11 := hZ.out.c1 (g := g1) (a := a1) (b := a2) (by simp)
      have k20 := hZ.out.c0 (g := g2) (a := b1) (b := b2) (by simp)
      have k21 := hZ.out.c1 (g := g2) (a := b1) (b := b2) (by simp)
      go_wp2_with (fail)
      refine (er.out _).mono ?_
      rintro e w7 ⟨rfl, hb_⟩
      replace hZ := Lib.hid (hZ.out.bel hb_)
      clear hb_
      clear k10 k11 k20 k21
      have k10 := hZ.out.c0 (g := g1) (a := a1) (b := a2) (by simp)
      have k11 := hZ.out.c1 (g := g1) (a := a1) (b := a2) (by simp)
      have k20 := hZ.out.c0 (g := g2) (a := b1) (b := b2) (by simp)
      have k21 := hZ.out.c1 (g := g2) (a := b1) (b := b2) (by simp)
      go_wp2_with (fail)
      refine (er.out _).mono ?_
      rintro e w7 ⟨rfl, hb_⟩
      replace hZ := Lib.hid (hZ.out.bel hb_)
      clear hb_
      clear k10 k11 k20 k21
      have k10 := hZ.out.c0 (g := g1) (a := a1) (b := a2) (by simp)
      have k11 := hZ.out.c1 (g := g1) (a := a1) (b := a2) (by simp)
      have k20 := hZ.out.c0 (g := g2) (a := b1) (b := b2) (by simp)
      have k21 := hZ.out.c1 (g := g2) (a := b1) (b := b2) (by simp)
      go_wp2_with (fail)
      go_returns
      exact ⟨rfl, hZ.out.1⟩
    · cases ok2
      · clear hno
        have k10 := hZ.out.c0 (g := g1) (a := a1) (b := a2) (by simp)
        have k11 := hZ.out.c1 (g := g1) (a := a1) (b := a2) (by simp)
        have k20 := hZ.out.c0 (g := g2) (a := b1) (b := b2) (by simp)
        have k21 := hZ.out.c1 (g := g2) (a := b1) (b := b2) (by simp)
        go_wp2_with (fail)
        refine (qd.out _).mono ?_
        rintro e w7 ⟨rfl, hb_⟩
        replace hZ := Lib.hid (hZ.out.bel hb_)
        clear hb_
        clear k10 k11 k20 k21
        have k10 := hZ.out.c0 (g := g1) (a := a1) (b := a2) (by simp)
        have k11 := hZ.out.c1 (g := g1) (a := a1) (b := a2) (by simp)
        have k20 := hZ.out.c0 (g := g2) (a := b1) (b := b2) (by simp)
        have k21 := hZ.out.c1 (g := g2) (a := b1) (b := b2) (by simp)
        go_wp2_with (fail)
        refine (qg.out _).mono ?_
        rintro e w7 ⟨rfl, hb_⟩
        replace hZ := Lib.hid (hZ.out.bel hb_)
        clear hb_
        clear k10 k11 k20 k21
        have k10 := hZ.out.c0 (g := g1) (a := a1) (b := a2) (by simp)
        have k11 := hZ.out.c1 (g := g1) (a := a1) (b := a2) (by simp)
        have k20 := hZ.out.c0 (g := g2) (a := b1) (b := b2) (by simp)
        have k21 := hZ.out.c1 (g := g2) (a := b1) (b := b2) (by simp)
        go_wp2_with (fail)
        refine (er.out _).mono ?_
        rintro e w7 ⟨rfl, hb_⟩
        replace hZ := Lib.hid (hZ.out.bel hb_)
        clear hb_
        clear k10 k11 k20 k21
        have k10 := hZ.out.c0 (g := g1) (a := a1) (b := a2) (by simp)
        have k11 := hZ.out.c1 (g := g1) (a := a1) (b := a2) (by simp)
        have k20 := hZ.out.c0 (g := g2) (a := b1) (b := b2) (by simp)
        have k21 := hZ.out.c1 (g := g2) (a := b1) (b := b2) (by simp)
        go_wp2_with (fail)
        refine (er.out _).mono ?_
        rintro e w7 ⟨rfl, hb_⟩
        replace hZ := Lib.hid (hZ.out.bel hb_)
        clear hb_
        clear k10 k11 k20 k21
        have k10 := hZ.out.c0 (g := g1) (a := a1) (b := a2) (by simp)
        have k11 := hZ.out.c1 (g := g1) (a := a1) (b := a2) (by simp)
        have k20 := hZ.out.c0 (g := g2) (a := b1) (b := b2) (by simp)
        have k21 := hZ.out.c1 (g := g2) (a := b1) (b := b2) (by simp)
        go_wp2_with (fail)
        refine (er.out _).mono ?_
        rintro e w7 ⟨rfl, hb_⟩
        replace hZ := Lib.hid (hZ.out.bel hb_)
        clear hb_
        clear k10 k11 k20 k21
        have k10 := hZ.out.c0 (g := g1) (a := a1) (b := a2) (by simp)
        have k11 := hZ.out.c1 (g := g1) (a := a1) (b := a2) (by simp)
        have k20 := hZ.out.c0 (g := g2) (a := b1) (b := b2) (by simp)
        have k21 := hZ.out.c1 (g := g2) (a := b1) (b := b2) (by simp)
        go_wp2_with (fail)
        go_returns
        exact ⟨rfl, hZ.out.1⟩
      · exact absurd ⟨rfl, rfl⟩ hno
end Go.Proofs.YtmmfjonoenmplaaDoor
