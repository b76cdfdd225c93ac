import Derived.Test.YtmmfjonoenmplaaDoorGaL
namespace Go.Proofs.YtmmfjonoenmplaaDoor
open Go.RowKit Go.Extern.Stop Go.Stop Go.Extern
set_option linter.unusedVariables false
set_option linter.unusedSimpArgs false
/-! the walk of GaussSums -/
/-- blocks of numbers that stay, and that nothing old has turned -/
def Zs (w W : World) (l : List (Nat × (Int × Int))) : Prop := Below w.heap.size w W ∧ ∀ x ∈ l, Bk W x.1 25 #[.int .i64 x.2.1, .int .i64 x.2.2]
section
variable {w W W' : World} {l : List (Nat × (Int × Int))}
theorem Zs.bel (h : Zs w W l) (hb : Below W.heap.size W W') : Zs w W' l := ⟨h.1.trans (hb.mono h.1.size), fun x hx => (h.2 x hx).kept hb (h.2 x hx).lt⟩
theorem Zs.draws (h : Zs w W l) (n : Nat) : Zs w (W.drewN n) l := h.bel ⟨rfl, rfl, rfl, Nat.le_refl _, fun _ _ => rfl⟩
theorem Zs.drew (h : Zs w W l) : Zs w W.drew l := h.bel ⟨rfl, rfl, rfl, Nat.le_refl _, fun _ _ => rfl⟩
theorem Zs.made (h : Zs w W l) (a b : Int) : Zs w (W.alloc (.cells #[.int .i64 a, .int .i64 b] 25)) ((W.heap.size, (a, b)) :: l) :=
  ⟨h.1.alloc h.1.size _, fun x hx => by
    rcases List.mem_cons.1 hx with rfl | hx
    · exact Bk.fresh W _ _
    · exact (h.2 x hx).past _⟩
theorem Zs.c0 (h : Zs w W l) {g : Nat} {a b : Int} (hm : (g, (a, b)) ∈ l) : W.cell? ⟨g, 0, none⟩ = some (.int .i64 a) := (h.2 _ hm).cell 0
theorem Zs.c1 (h : Zs w W l) {g : Nat} {a b : Int} (hm : (g, (a, b)) ∈ l) : W.cell? ⟨g, 1, none⟩ = some (.int .i64 b) := (h.2 _ hm).cell 1
end
/-- a result: what was asked, and the law's answer -/
theorem res_ans (z : Int × Int) (h : Sm z 1125899906842624) : ∃ v k, res z = .tuple #[v, .int .i64 k] ∧ rangedV z = k ∧ ∀ w, Calls Tryd.prog 17 #[v, .int .i64 k, zV z, .int .i64 k] w fun e w' => e = .returned (.bool true) ∧ Below w.heap.size w w' := by
  rcases res_cases z with ⟨h1, h2⟩ | ⟨h1, h2⟩
  · exact ⟨_, _, h2, h1, fun w => answers_ok z h w⟩
  · exact ⟨_, _, h2, h1, fun w => answers_err z 8 (by decide) w⟩
set_option maxRecDepth 100000 in
set_option maxHeartbeats 4000000 in
theorem walk_sums (x1 x2 y1 y2 : Nat) (w : World) (hT : Tab w) (h1 : x1 < 18446744073709551616) (h2 : x2 < 18446744073709551616) (h3 : y1 < 18446744073709551616) (h4 : y2 < 18446744073709551616) :
    Calls Tryd.prog 4 #[.float .f64 x1, .float .f64 x2, .float .f64 y1, .float .f64 y2] w fun e w' => e = .returned (.bool true) ∧ Below w.heap.size w w' := by
  have hsh := Lib.hid (shown_any w hT)
  have hof1 := Lib.hid (fun w => rof_any (x1, x2) ⟨h1, h2⟩ w)
  have hof2 := Lib.hid (fun w => rof_any (y1, y2) ⟨h3, h4⟩ w)
  have hbad := Lib.hid (fun hno => (⟨fun w => add_bad (x1, x2) (y1, y2) ⟨h1, h2⟩ ⟨h3, h4⟩ hno w, fun w => sub_bad (x1, x2) (y1, y2) ⟨h1, h2⟩ ⟨h3, h4⟩ hno w, fun w => mul_bad (x1, x2) (y1, y2) ⟨h1, h2⟩ ⟨h3, h4⟩ hno w⟩ : _ ∧ _ ∧ _))
  clear h1 h2 h3 h4 hT
  go_enter Tryd.func4, Tryd.ntmps4
  go_wp2_with (fail)
  refine hsh.out.mono ?_
  rintro e w1 ⟨rfl, hb_⟩
  have hZ : Hid (Zs w w1 []) := Lib.hid ⟨hb_, fun x hx => by cases hx⟩
  clear hb_ hsh
  go_wp2_with (fail)
  refine (hof1.out _).mono ?_
  rintro e w2 ⟨⟨a1, a2⟩, ok1, rfl, ha, hb_⟩
  replace hZ := Lib.hid (hZ.out.bel hb_)
  clear hb_
  unfold zV
  replace ha := Lib.hid ha
  go_wp2_with (fail)
  replace hZ := Lib.hid (hZ.out.made a1 a2)
  obtain ⟨g1, hg1⟩ : ∃ g, w2.heap.size = g := ⟨_, rfl⟩
  obtain ⟨X2, hX2⟩ : ∃ X, w2.alloc (.cells #[.int .i64 a1, .int .i64 a2] 25) = X := ⟨_, rfl⟩
  rw [hg1, hX2] at hZ
  rw [hX2, hg1]
  clear hX2 hg1
  refine (hof2.out _).mono ?_
  rintro e w3 ⟨⟨b1, b2⟩, ok2, rfl, hb, hb_⟩
  replace hZ := Lib.hid (hZ.out.bel hb_)
  clear hb_
  unfold zV
  replace hb := Lib.hid hb
  replace hZ := Lib.hid (hZ.out.made b1 b2)
  go_wp2_with (fail)
  obtain ⟨g2, hg2⟩ : ∃ g, w3.heap.size = g := ⟨_, rfl⟩
  obtain ⟨X3, hX3⟩ : ∃ X, w3.alloc (.cells #[.int .i64 b1, .int .i64 b2] 25) = X := ⟨_, rfl⟩
  rw [hg2, hX3] at hZ
  rw [hX3, hg2]
  clear hX3 hg2 hof1 hof2
  by_cases hR : (Rt x1 ∧ Rt x2) ∧ (Rt y1 ∧ Rt y2)
  · obtain ⟨hR1, hR2⟩ := hR
    obtain ⟨c, hc1, hc2⟩ := rt_nm (x := (x1, x2)) hR1
    obtain ⟨d, hd1, hd2⟩ := rt_nm (x := (y1, y2)) hR2
    obtain rfl : ok1 = true := ha.out.2.1.2 hR1
    obtain rfl : ok2 = true := hb.out.2.1.2 hR2
    obtain rfl : (a1, a2) = c := ha.out.2.2 c hc1 hc2
    obtain rfl : (b1, b2) = d := hb.out.2.2 d hd1 hd2
    have qa := fun w => add_ok (x1, x2) (y1, y2) (a1, a2) (b1, b2) hc1 hd1 hc2 hd2 w
    have qs := fun w => sub_ok (x1, x2) (y1, y2) (a1, a2) (b1, b2) hc1 hd1 hc2 hd2 w
    have qm := fun w => mul_ok (x1, x2) (y1, y2) (a1, a2) (b1, b2) hc1 hd1 hc2 hd2 w
    have ra := Lib.hid (fun w => radd_any (a1, a2) (b1, b2) (sm_mono hc2 (by decide)) (sm_mono hd2 (by decide)) w)
    have rs := Lib.hid (fun w => rsub_any (a1, a2) (b1, b2) (sm_mono hc2 (by decide)) (sm_mono hd2 (by decide)) w)
    have rm := Lib.hid (fun w => rmul_any (a1, a2) (b1, b2) (sm_mono hc2 (by decide)) hd2 w)
    have sa : Sm (a1 + b1, a2 + b2) 1125899906842624 := by unfold Sm at *; simp only at *; omega
    have ss : Sm (a1 - b1, a2 - b2) 1125899906842624 := by unfold Sm at *; simp only at *; omega
    have sm : Sm (mulZ (a1, a2) (b1, b2)) 1125899906842624 := by
      obtain ⟨q1, q2, q3, q4⟩ := hc2
      obtain ⟨b1', b2', b3', b4'⟩ := hd2
      have p1 := prod_le q1 q2 b1' b2'
      have p2 := prod_le q3 q4 b3' b4'
      have p3 := prod_le q1 q2 b3' b4'
      have p4 := prod_le q3 q4 b1' b2'
      unfold Sm mulZ
      simp only at *
      omega
    obtain ⟨va, ka, ea1, ea2, ea3⟩ := res_ans _ sa
    obtain ⟨vs, ks, es1, es2, es3⟩ := res_ans _ ss
    obtain ⟨vm, km, em1, em2, em3⟩ := res_ans _ sm
    have na := Lib.hid (fun w => ranged_any (a1 + b1, a2 + b2) w)
    have ns := Lib.hid (fun w => ranged_any (a1 - b1, a2 - b2) w)
    have nm := Lib.hid (fun w => ranged_any (mulZ (a1, a2) (b1, b2)) w)
    simp only at qa qs ra rs ea1 es1
    rw [ea1] at qa
    rw [es1] at qs
    rw [em1] at qm
    rw [ea2] at na
    rw [es2] at ns
    rw [em2] at nm
    obtain ⟨u1, hu1⟩ : ∃ u, a1 + b1 = u := ⟨_, rfl⟩
    obtain ⟨u2, hu2⟩ : ∃ u, a2 + b2 = u := ⟨_, rfl⟩
    obtain ⟨s1, hs1⟩ : ∃ u, a1 - b1 = u := ⟨_, rfl⟩
    obtain ⟨s2, hs2⟩ : ∃ u, a2 - b2 = u := ⟨_, rfl⟩
    obtain ⟨⟨m1, m2⟩, hm⟩ : ∃ u, mulZ (a1, a2) (b1, b2) = u := ⟨_, rfl⟩
    rw [hu1, hu2] at ra ea3 na
    rw [hs1, hs2] at rs es3 ns
    rw [hm] at rm em3 nm
    unfold zV at ra rs rm na ns nm ea3 es3 em3
    simp only at ra rs rm na ns nm ea3 es3 em3
    replace qa := Lib.hid qa
    replace qs := Lib.hid qs
    replace qm := Lib.hid qm
    replace ea3 := Lib.hid ea3
    replace es3 := Lib.hid es3
    replace em3 := Lib.hid em3
    clear hR1 hR2 hc1 hc2 hd1 hd2 ha hb hbad sa ss sm ea1 ea2 es1 es2 em1 em2 hu1 hu2 hs1 hs2 hm
    have hZ0 := hZ
    go_wp2_with (fail)
    refine (qa.out _).mono ?_
    rintro e w4 ⟨rfl, hb_⟩
    replace hZ := Lib.hid (hZ.out.bel hb_)
    clear hb_
    go_wp2_with (fail)
    refine (qs.out _).mono ?_
    rintro e w5 ⟨rfl, hb_⟩
    replace hZ := Lib.hid (hZ.out.bel hb_)
    clear hb_
    go_wp2_with (fail)
    refine (qm.out _).mono ?_
    rintro e w6 ⟨rfl, hb_⟩
    replace hZ := Lib.hid (hZ.out.bel hb_)
    clear hb_
    have k10 := hZ.out.c0 (g := g1) (a := a1) (b := a2) (by simp)
    have k11 := hZ.out.c1 (g := g1) (a := a1) (b := a2) (by simp)
    have k20 := hZ.out.c0 (g := g2) (a := b1) (b := b2) (by simp)
    have k21 := hZ.out.c1 (g := g2) (a := b1) (b := b2) (by simp)
    go_wp2_with (fail)
    refine (ra.out _).mono ?_
    rintro e w7 ⟨rfl, hb_⟩
    replace hZ := Lib.hid (hZ.out.bel hb_)
    clear hb_
    replace hZ := Lib.hid (hZ.out.made u1 u2)
    clear k10 k11 k20 k21
    have k10 := hZ.out.c0 (g := g1) (a := a1) (b := a2) (by simp)
    have k11 := hZ.out.c1 (g := g1) (a := a1) (b := a2) (by simp)
    have k20 := hZ.out.c0 (g := g2) (a := b1) (b := b2) (by simp)
    have k21 := hZ.out.c1 (g := g2) (a := b1) (b := b2) (by simp)
    go_wp2_with (fail)
    obtain ⟨g3, hg_⟩ : ∃ g, w7.heap.size = g := ⟨_, rfl⟩
    obtain ⟨X7, hX_⟩ : ∃ X, w7.alloc (.cells #[.int .i64 u1, .int .i64 u2] 25) = X := ⟨_, rfl⟩
    rw [hg_, hX_] at hZ
    rw [hX_] at k10 k11 k20 k21
    rw [hX_, hg_]
    clear hX_ hg_
    refine (rs.out _).mono ?_
    rintro e w8 ⟨rfl, hb_⟩
    replace hZ := Lib.hid (hZ.out.bel hb_)
    clear hb_
    replace hZ := Lib.hid (hZ.out.made s1 s2)
    clear k10 k11 k20 k21
    have k10 := hZ.out.c0 (g := g1) (a := a1) (b := a2) (by simp)
    have k11 := hZ.out.c1 (g := g1) (a := a1) (b := a2) (by simp)
    have k20 := hZ.out.c0 (g := g2) (a := b1) (b := b2) (by simp)
    have k21 := hZ.out.c1 (g := g2) (a := b1) (b := b2) (by simp)
    go_wp2_with (fail)
    obtain ⟨g4, hg_⟩ : ∃ g, w8.heap.size = g := ⟨_, rfl⟩
    obtain ⟨X8, hX_⟩ : ∃ X, w8.alloc (.cells #[.int .i64 s1, .int .i64 s2] 25) = X := ⟨_, rfl⟩
    rw [hg_, hX_] at hZ
    rw [hX_] at k10 k11 k20 k21
    rw [hX_, hg_]
    clear hX_ hg_
    refine (rm.out _).mono ?_
    rintro e w9 ⟨rfl, hb_⟩
    replace hZ := Lib.hid (hZ.out.bel hb_)
    clear hb_
    replace hZ := Lib.hid (hZ.out.made m1 m2)
    clear k10 k11 k20 k21
    have k10 := hZ.out.c0 (g := g1) (a := a1) (b := a2) (by simp)
    have k11 := hZ.out.c1 (g := g1) (a := a1) (b := a2) (by simp)
    have k20 := hZ.out.c0 (g := g2) (a := b1) (b := b2) (by simp)
    have k21 := hZ.out.c1 (g := g2) (a := b1) (b := b2) (by simp)
    go_wp2_with (fail)
    obtain ⟨g5, hg_⟩ : ∃ g, w9.heap.size = g := ⟨_, rfl⟩
    obtain ⟨X9, hX_⟩ : ∃ X, w9.alloc (.cells #[.int .i64 m1, .int .i64 m2] 25) = X := ⟨_, rfl⟩
    rw [hg_, hX_] at hZ
    rw [hX_] at k10 k11 k20 k21
    rw [hX_, hg_]
    clear hX_ hg_
    clear k10 k11 k20 k21
    have k30 := hZ.out.c0 (g := g3) (a := u1) (b := u2) (by simp)
    have k31 := hZ.out.c1 (g := g3) (a := u1) (b := u2) (by simp)
    go_region_held3 (fun w' => w'.cell? ⟨g3, 0, none⟩ = some (.int .i64 u1) ∧ w'.cell? ⟨g3, 1, none⟩ = some (.int .i64 u2)) ((simp [go_sem, *]))
      (first
        | (go_at_call 26; (with_reducible refine Calls.mono (na.out _) ?_); rintro e w1_ ⟨rfl, hb_⟩; replace hZ := Lib.hid (Zs.bel (by first | exact hZ.out | exact hZ.out.drew) hb_); clear hb_; have kS := And.intro (hZ.out.c0 (g := g3) (a := u1) (b := u2) (by simp)) (hZ.out.c1 (g := g3) (a := u1) (b := u2) (by simp)))
        | (go_at_call 17; (with_reducible refine Calls.mono (ea3.out _) ?_); rintro e w1_ ⟨rfl, hb_⟩; replace hZ := Lib.hid (Zs.bel (by first | exact hZ.out | exact hZ.out.drew) hb_); clear hb_; have kS := And.intro (hZ.out.c0 (g := g3) (a := u1) (b := u2) (by simp)) (hZ.out.c1 (g := g3) (a := u1) (b := u2) (by simp))))
    clear k30 k31
    go_wp2_with (fail)
    have k40 := hZ.out.c0 (g := g4) (a := s1) (b := s2) (by simp)
    have k41 := hZ.out.c1 (g := g4) (a := s1) (b := s2) (by simp)
    go_region_held3 (fun w' => w'.cell? ⟨g4, 0, none⟩ = some (.int .i64 s1) ∧ w'.cell? ⟨g4, 1, none⟩ = some (.int .i64 s2)) ((simp [go_sem, *]))
      (first
        | (go_at_call 26; (with_reducible refine Calls.mono (ns.out _) ?_); rintro e w1_ ⟨rfl, hb_⟩; replace hZ := Lib.hid (Zs.bel (by first | exact hZ.out | exact hZ.out.drew) hb_); clear hb_; have kS := And.intro (hZ.out.c0 (g := g4) (a := s1) (b := s2) (by simp)) (hZ.out.c1 (g := g4) (a := s1) (b := s2) (by simp)))
        | (go_at_call 17; (with_reducible refine Calls.mono (es3.out _) ?_); rintro e w1_ ⟨rfl, hb_⟩; replace hZ := Lib.hid (Zs.bel (by first | exact hZ.out | exact hZ.out.drew) hb_); clear hb_; have kS := And.intro (hZ.out.c0 (g := g4) (a := s1) (b := s2) (by simp)) (hZ.out.c1 (g := g4) (a := s1) (b := s2) (by simp))))
    clear k40 k41
    go_wp2_with (fail)
    have k50 := hZ.out.c0 (g := g5) (a := m1) (b := m2) (by simp)
    have k51 := hZ.out.c1 (g := g5) (a := m1) (b := m2) (by simp)
    go_region_held3 (fun w' => w'.cell? ⟨g5, 0, none⟩ = some (.int .i64 m1) ∧ w'.cell? ⟨g5, 1, none⟩ = some (.int .i64 m2)) ((simp [go_sem, *]))
      (first
        | (go_at_call 26; (with_reducible refine Calls.mono (nm.out _) ?_); rintro e w1_ ⟨rfl, hb_⟩; replace hZ := Lib.hid (Zs.bel (by first | exact hZ.out | exact hZ.out.drew) hb_); clear hb_; have kS := And.intro (hZ.out.c0 (g := g5) (a := m1) (b := m2) (by simp)) (hZ.out.c1 (g := g5) (a := m1) (b := m2) (by simp)))
        | (go_at_call 17; (with_reducible refine Calls.mono (em3.out _) ?_); rintro e w1_ ⟨rfl, hb_⟩; replace hZ := Lib.hid (Zs.bel (by first | exact hZ.out | exact hZ.out.drew) hb_); clear hb_; have kS := And.intro (hZ.out.c0 (g := g5) (a := m1) (b := m2) (by simp)) (hZ.out.c1 (g := g5) (a := m1) (b := m2) (by simp))))
    go_wp2_with (fail)
    go_returns
    exact ⟨rfl, hZ.out.1⟩
  · obtain ⟨qa, qs, qm⟩ := hbad.out hR
    replace qa := Lib.hid qa
    replace qs := Lib.hid qs
    replace qm := Lib.hid qm
    have er := Lib.hid (fun w => answers_err (a1, a2) 1 (by decide) w)
    have hno : ¬ (ok1 = true ∧ ok2 = true) := fun ⟨i, j⟩ => hR ⟨ha.out.2.1.1 i, hb.out.2.1.1 j⟩
    unfold zV at er
    simp only at er qa qs qm
    unfold bad at qa qs qm
    clear ha hb hbad hR
    cases ok1
    · clear hno
      go_wp2_with (fail)
      refine (qa.out _).mono ?_
      rintro e w4 ⟨rfl, hb_⟩
      replace hZ := Lib.hid (hZ.out.bel hb_)
      clear hb_
      go_wp2_with (fail)
      refine (qs.out _).mono ?_
      rintro e w5 ⟨rfl, hb_⟩
      replace hZ := Lib.hid (hZ.out.bel hb_)
      clear hb_
      go_wp2_with (fail)
      refine (qm.out _).mono ?_
      rintro e w6 ⟨rfl, hb_⟩
      replace hZ := Lib.hid (hZ.out.bel hb_)
      clear hb_
      have k10 := hZ.out.c0 (g := g1) (a := a1) (b := a2) (by simp)
      have k11 := hZ.out.c1 (g := g1) (a := a1) (b := a2) (by simp)
      have k20 := hZ.out.c0 (g := g2) (a := b1) (b := b2) (by simp)
      have k21 := hZ.out.c1 (g := g2) (a := b1) (b := b2) (by simp)
      go_wp2_with (fail)
      refine (er.out _).mono ?_
      rintro e w7 ⟨rfl, hb_⟩
      replace hZ := Lib.hid (hZ.out.bel hb_)
      clear hb_
      clear k10 k11 k20 k21
      have k10 := hZ.out.c0 (g := g1) (a := a1) (b := a2) (by simp)
      have k11 := hZ.out.c1 (g := g1) (a := a1) (b := a2) (by simp)
      have k20 := hZ.out.c0 (g := g2) (a := b1) (b := b2) (by simp)
      have k21 := hZ.out.c1 (g := g2) (a := b1) (b := b2) (by simp)
      go_wp2_with (fail)
      refine (er.out _).mono ?_
      rintro e w7 ⟨rfl, hb_⟩
      replace hZ := Lib.hid (hZ.out.bel hb_)
      clear hb_
      clear k10 k11 k20 k21
      have k10 := hZ.out.c0 (g := g1) (a := a1) (b := a2) (by simp)
      have k11 := hZ.out.c1 (g := g1) (a := a1) (b := a2) (by simp)
      have k20 := hZ.out.c0 (g := g2) (a := b1) (b := b2) (by simp)
      have k21 := hZ.out.c1 (g := g2) (a := b1) (b := b2) (by simp)
      go_wp2_with (fail)
      refine (er.out _).mono ?_
      rintro e w7 ⟨rfl, hb_⟩
      replace hZ := Lib.hid (hZ.out.bel hb_)
      clear hb_
      clear k10 k11 k20 k21
      have k10 := hZ.out.c0 (g := g1) (a := a1) (b := a2) (by simp)
      have k11 := hZ.out.c1 (g := g1) (a := a1) (b := a2) (by simp)
      have k20 := hZ.out.c0 (g := g2) (a := b1) (b := b2) (by simp)
      have k21 := hZ.out.c1 (g := g2) (a := b1) (b := b2) (by simp)
      go_wp2_with (fail)
      go_returns
      exact ⟨rfl, hZ.out.1⟩
    · cases ok2
      · clear hno
        go_wp2_with (fail)
        refine (qa.out _).mono ?_
        rintro e w4 ⟨rfl, hb_⟩
        replace hZ := Lib.hid (hZ.out.bel hb_)
        clear hb_
        go_wp2_with (fail)
        refine (qs.out _).mono ?_
        rintro e w5 ⟨rfl, hb_⟩
        replace hZ := Lib.hid (hZ.out.bel hb_)
        clear hb_
        go_wp2_with (fail)
        refine (qm.out _).mono ?_
        rintro e w6 ⟨rfl, hb_⟩
        replace hZ := Lib.hid (hZ.out.bel hb_)
        clear hb_
        have k10 := hZ.out.c0 (g := g1) (a := a1) (b := a2) (by simp)
        have k11 := hZ.out.c1 (g := g1) (a := a1) (b := a2) (by simp)
        have k20 := hZ.out.c0 (g := g2) (a := b1) (b := b2) (by simp)
        have k21 := hZ.out.c1 (g := g2) (a := b1) (b := b2) (by simp)
        go_wp2_with (fail)
        refine (er.out _).mono ?_
        rintro e w7 ⟨rfl, hb_⟩
        replace hZ := Lib.hid (hZ.out.bel hb_)
        clear hb_
        clear k10 k11 k20 k21
        have k10 := hZ.out.c0 (g := g1) (a := a1) (b := a2) (by simp)
        have k11 := hZ.out.c1 (g := g1) (a := a1) (b := a2) (by simp)
        have k20 := hZ.out.c0 (g := g2) (a := b1) (b := b2) (by simp)
        have k21 := hZ.out.c1 (g := g2) (a := b1) (b := b2) (by simp)
        go_wp2_with (fail)
        refine (er.out _).mono ?_
        rintro e w7 ⟨rfl, hb_⟩
        replace hZ := Lib.hid (hZ.out.bel hb_)
        clear hb_
        clear k10 k11 k20 k21
        have k10 := hZ.out.c0 (g := g1) (a := a1) (b := a2) (by simp)
        have k11 := hZ.out.c1 (g := g1) (a := a1) (b := a2) (by simp)
        have k20 := hZ.out.c0 (g := g2) (a := b1) (b := b2) (by simp)
        have k21 := hZ.out.c1 (g := g2) (a := b1) (b := b2) (by simp)
        go_wp2_with (fail)
        refine (er.out _).mono ?_
        rintro e w7 ⟨rfl, hb_⟩
        replace hZ := Lib.hid (hZ.out.bel hb_)
        clear hb_
        clear k10 k11 k20 k21
        have k10 := hZ.out.c0 (g := g1) (a := a1) (b := a2) (by simp)
        have k11 := hZ.out.c1 (g := g1) (a := a1) (b := a2) (by simp)
        have k20 := hZ.out.c0 (g := g2) (a := b1) (b := b2) (by simp)
        have k21 := hZ.out.c1 (g := g2) (a := b1) (b := b2) (by simp)
        go_wp2_with (fail)
        go_returns
        exact ⟨rfl, hZ.out.1⟩
      · exact absurd ⟨rfl, rfl⟩ hno
end Go.Proofs.YtmmfjonoenmplaaDoor
