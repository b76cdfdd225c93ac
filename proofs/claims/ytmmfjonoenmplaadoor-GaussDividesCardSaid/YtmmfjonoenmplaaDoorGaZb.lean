import Derived.Test.YtmmfjonoenmplaaDoorGaZa
import Derived.Test.YtmmfjonoenmplaaDoorGaM
namespace Go.Proofs.YtmmfjonoenmplaaDoor
open Go.RowKit Go.Extern.Stop Go.Stop Go.Extern
set_option linter.unusedVariables false
set_option linter.unusedSimpArgs false
/-! the document's Div -/
/-- what lies while the quotient and what is left are stored -/
structure D5 (w W : World) (g h8 h9 : Nat) (a q p x y : Int × Int) : Prop where
  z : Zs w W [(h9, p), (h8, q), (g, a)]
  x : Bk W (g + 2) 25 #[.int .i64 x.1, .int .i64 x.2]
  y : Bk W (g + 3) 25 #[.int .i64 y.1, .int .i64 y.2]
  gg : w.heap.size ≤ g
  k8 : g + 3 < h8
  k9 : g + 3 < h9
section
variable {w W W' : World} {g h8 h9 : Nat} {a q p x y : Int × Int}
theorem D5.bel (h : D5 w W g h8 h9 a q p x y) (hb : Below W.heap.size W W') : D5 w W' g h8 h9 a q p x y := ⟨h.z.bel hb, h.x.kept hb h.x.lt, h.y.kept hb h.y.lt, h.gg, h.k8, h.k9⟩
theorem D5.drew (h : D5 w W g h8 h9 a q p x y) : D5 w W.drew g h8 h9 a q p x y := h.bel ⟨rfl, rfl, rfl, Nat.le_refl _, fun _ _ => rfl⟩
theorem D5.zput (h : D5 w W g h8 h9 a q p x y) (k : Nat) (hk : k = g + 2 ∨ k = g + 3) (u v : Value) : Zs w ((W.setCell ⟨k, 0, none⟩ u).setCell ⟨k, 1, none⟩ v) [(h9, p), (h8, q), (g, a)] := by
  have g1 := h.gg; have g2 := h.k8; have g3 := h.k9
  refine ⟨(h.z.1.setCell (p := ⟨k, 0, none⟩) (by show w.heap.size ≤ k; omega) _).setCell (p := ⟨k, 1, none⟩) (by show w.heap.size ≤ k; omega) _, fun z hz => ?_⟩
  have hne : z.1 ≠ k := by
    simp at hz
    rcases hz with rfl | rfl | rfl <;> simp <;> omega
  exact ((h.z.2 z hz).other (p := ⟨k, 0, none⟩) hne _).other (p := ⟨k, 1, none⟩) hne _
theorem D5.put2 (h : D5 w W g h8 h9 a q p x y) (u : Int × Int) : D5 w ((W.setCell ⟨g + 2, 0, none⟩ (.int .i64 u.1)).setCell ⟨g + 2, 1, none⟩ (.int .i64 u.2)) g h8 h9 a q p u y :=
  ⟨h.zput (g + 2) (.inl rfl) _ _, (h.x.put 0 _).put 1 _, (h.y.other (p := ⟨g + 2, 0, none⟩) (by simp) _).other (p := ⟨g + 2, 1, none⟩) (by simp) _, h.gg, h.k8, h.k9⟩
theorem D5.put3 (h : D5 w W g h8 h9 a q p x y) (u : Int × Int) : D5 w ((W.setCell ⟨g + 3, 0, none⟩ (.int .i64 u.1)).setCell ⟨g + 3, 1, none⟩ (.int .i64 u.2)) g h8 h9 a q p x u :=
  ⟨h.zput (g + 3) (.inr rfl) _ _, (h.x.other (p := ⟨g + 3, 0, none⟩) (by simp) _).other (p := ⟨g + 3, 1, none⟩) (by simp) _, (h.y.put 0 _).put 1 _, h.gg, h.k8, h.k9⟩
theorem D5.S (h : D5 w W g h8 h9 a q p x y) : W.cell? ⟨h8, 0, none⟩ = some (.int .i64 q.1) ∧ W.cell? ⟨h8, 1, none⟩ = some (.int .i64 q.2) ∧ W.cell? ⟨g, 0, none⟩ = some (.int .i64 a.1) ∧ W.cell? ⟨g, 1, none⟩ = some (.int .i64 a.2) ∧ W.cell? ⟨h9, 0, none⟩ = some (.int .i64 p.1) ∧ W.cell? ⟨h9, 1, none⟩ = some (.int .i64 p.2) :=
  ⟨h.z.c0 (g := h8) (a := q.1) (b := q.2) (by simp), h.z.c1 (g := h8) (a := q.1) (b := q.2) (by simp), h.z.c0 (g := g) (a := a.1) (b := a.2) (by simp), h.z.c1 (g := g) (a := a.1) (b := a.2) (by simp), h.z.c0 (g := h9) (a := p.1) (b := p.2) (by simp), h.z.c1 (g := h9) (a := p.1) (b := p.2) (by simp)⟩
theorem D5.of {l : List (Nat × (Int × Int))} (h : Zs w W l) (h1 : (h9, p) ∈ l) (h2 : (h8, q) ∈ l) (h3 : (g, a) ∈ l) (h4 : (g + 2, x) ∈ l) (h5 : (g + 3, y) ∈ l) (hg : w.heap.size ≤ g) (k1 : g + 3 < h8) (k2 : g + 3 < h9) : D5 w W g h8 h9 a q p x y :=
  ⟨⟨h.1, fun z hz => by simp at hz; rcases hz with rfl | rfl | rfl <;> exact h.2 _ (by assumption)⟩, h.2 _ h4, h.2 _ h5, hg, k1, k2⟩
end
set_option maxRecDepth 100000 in
set_option maxHeartbeats 4000000 in
theorem rdiv_any (a b : Int × Int) (ha : Sm a 16777216) (hb : Sm b 16777216) (h0 : b ≠ (0, 0)) (w : World) : Calls Tryd.prog 19 #[zV a, zV b] w fun e w' => e = .returned (.tuple #[zV (divQ a b), zV (divR a b)]) ∧ Below w.heap.size w w' := by
  have hn := norm_pos h0
  have hne := norm_le hb
  have nb : normZ b = b.1 * b.1 + b.2 * b.2 := rfl
  have hc : Sm (conjZ b) 16777216 := by unfold conjZ Sm at *; simp only; omega
  have hm := mulZ_sm ha hc
  have hQ := divQ_le (by decide) ha h0
  have rn := Lib.hid (fun w => rnorm_any b hb w)
  have rm := Lib.hid (fun w => rmul_any a (conjZ b) (sm_mono ha (by decide)) hc w)
  have r1 := Lib.hid (fun w => rnear_any (mulZ a (conjZ b)).1 (normZ b) hn (by omega) (by unfold Sm at hm; omega) (by unfold Sm at hm; omega) w)
  have r2 := Lib.hid (fun w => rnear_any (mulZ a (conjZ b)).2 (normZ b) hn (by omega) (by unfold Sm at hm; omega) (by unfold Sm at hm; omega) w)
  have rp := Lib.hid (fun w => rmul_any (divQ a b) b (sm_mono hQ (by decide)) hb w)
  have hP := mulZ_sm hQ hb
  have rs := Lib.hid (fun w => rsub_any a (mulZ (divQ a b) b) (sm_mono ha (by decide)) (sm_mono hP (by decide)) w)
  have hZ : Zs w w [] := ⟨Below.refl _ w, fun x hx => by cases hx⟩
  have wneg : IntKind.i64.wrap (-b.2) = -b.2 := by unfold Sm at hb; rw [IntKind.wrap_i64]; omega
  replace hZ := (((hZ.made a.1 a.2).made b.1 b.2).made 0 0).made 0 0
  simp only [World.size_alloc] at hZ
  have eR : divR a b = (a.1 - (mulZ (divQ a b) b).1, a.2 - (mulZ (divQ a b) b).2) := rfl
  rw [eR]
  obtain ⟨nz, hnz⟩ : ∃ n, normZ b = n := ⟨_, rfl⟩
  obtain ⟨⟨m1, m2⟩, hmz⟩ : ∃ m, mulZ a (conjZ b) = m := ⟨_, rfl⟩
  obtain ⟨⟨p1, p2⟩, hpz⟩ : ∃ m, mulZ (divQ a b) b = m := ⟨_, rfl⟩
  have e1 : (divQ a b).1 = nearZ m1 nz := by rw [← hnz]; unfold divQ; rw [hmz]
  have e2 : (divQ a b).2 = nearZ m2 nz := by rw [← hnz]; unfold divQ; rw [hmz]
  obtain ⟨⟨q1, q2⟩, hqz⟩ : ∃ m, divQ a b = m := ⟨_, rfl⟩
  rw [hnz] at rn
  rw [hmz] at rm
  simp only [hmz, hnz] at r1 r2
  rw [hqz] at rp hpz e1 e2
  rw [hqz, hpz] at rs
  rw [hpz] at rp
  rw [hqz, hpz]
  simp only at e1 e2
  rw [← e1] at r1
  rw [← e2] at r2
  unfold zV conjZ at *
  simp only at *
  replace hZ := Lib.hid hZ
  clear hn hne nb hc hm hQ hP ha hb h0 hnz hmz hpz hqz e1 e2 eR
  go_enter Tryd.func19, Tryd.ntmps19
  go_wp2_with (fail)
  obtain ⟨g, hg⟩ : ∃ g, w.heap.size = g := ⟨_, rfl⟩
  obtain ⟨X, hX⟩ : ∃ X, (((w.alloc (.cells #[.int .i64 a.1, .int .i64 a.2] 25)).alloc (.cells #[.int .i64 b.1, .int .i64 b.2] 25)).alloc (.cells #[.int .i64 0, .int .i64 0] 25)).alloc (.cells #[.int .i64 0, .int .i64 0] 25) = X := ⟨_, rfl⟩
  rw [hg, hX] at hZ
  rw [hg, hX]
  clear hX
  refine (rn.out _).mono ?_
  rintro e w1 ⟨rfl, hb_⟩
  replace hZ := Lib.hid (hZ.out.bel hb_)
  clear hb_
  have k10 := hZ.out.c0 (g := g) (a := a.1) (b := a.2) (by simp)
  have k11 := hZ.out.c1 (g := g) (a := a.1) (b := a.2) (by simp)
  have k20 := hZ.out.c0 (g := g + 1) (a := b.1) (b := b.2) (by simp)
  have k21 := hZ.out.c1 (g := g + 1) (a := b.1) (b := b.2) (by simp)
  go_wp2_with (fail)
  refine (rm.out _).mono ?_
  rintro e w2 ⟨rfl, hb_⟩
  replace hZ := Lib.hid ((hZ.out.bel hb_).made m1 m2)
  clear hb_ k10 k11 k20 k21
  go_wp2_with (fail)
  obtain ⟨h, hh⟩ : ∃ h, w2.heap.size = h := ⟨_, rfl⟩
  obtain ⟨Y, hY⟩ : ∃ X, w2.alloc (.cells #[.int .i64 m1, .int .i64 m2] 25) = X := ⟨_, rfl⟩
  rw [hh, hY] at hZ
  rw [hh, hY]
  clear hY
  have k0 := hZ.out.c0 (g := h) (a := m1) (b := m2) (by simp)
  have k1 := hZ.out.c1 (g := h) (a := m1) (b := m2) (by simp)
  have hg3 : g + 3 < Y.heap.size := (hZ.out.2 (g + 1 + 1 + 1, (0, 0)) (by simp)).lt
  have hlt : h < Y.heap.size := (hZ.out.2 (h, (m1, m2)) (by simp)).lt
  go_region_held3 (fun w' => w'.cell? ⟨h, 0, none⟩ = some (.int .i64 m1) ∧ w'.cell? ⟨h, 1, none⟩ = some (.int .i64 m2)) (first | (simp [go_sem, *]; done) | go_keep)
    (first
      | (go_at_call 50; (first | (with_reducible refine Calls.mono (r1.out _) ?_) | (with_reducible refine Calls.mono (r2.out _) ?_)); rintro e w1_ ⟨rfl, hn_⟩; replace hn_ := hn_.symm; subst hn_))
  all_goals (
    replace hZ := Lib.hid (hZ.out.made q1 q2).drew
    clear k0 k1
    obtain ⟨h8, hh8⟩ : ∃ h, Y.heap.size = h := ⟨_, rfl⟩
    obtain ⟨V, hV⟩ : ∃ X, (Y.alloc (.cells #[.int .i64 q1, .int .i64 q2] 25)).drew = X := ⟨_, rfl⟩
    rw [hh8, hV] at hZ
    rw [hh8, hV]
    clear hV
    have hg8 : g + 3 < h8 := by rw [← hh8]; exact hg3
    have k10 := hZ.out.c0 (g := h8) (a := q1) (b := q2) (by simp)
    have k11 := hZ.out.c1 (g := h8) (a := q1) (b := q2) (by simp)
    have k20 := hZ.out.c0 (g := g + 1) (a := b.1) (b := b.2) (by simp)
    have k21 := hZ.out.c1 (g := g + 1) (a := b.1) (b := b.2) (by simp)
    go_wp2_with (fail)
    refine (rp.out _).mono ?_
    rintro e w3 ⟨rfl, hb_⟩
    have hl8 : h8 < w3.heap.size := ((hZ.out.bel hb_).2 (h8, (q1, q2)) (by simp)).lt
    replace hZ := Lib.hid ((hZ.out.bel hb_).made p1 p2)
    clear hb_ k10 k11 k20 k21
    go_wp2_with (fail)
    obtain ⟨h9, hh9⟩ : ∃ h, w3.heap.size = h := ⟨_, rfl⟩
    obtain ⟨U, hU⟩ : ∃ X, w3.alloc (.cells #[.int .i64 p1, .int .i64 p2] 25) = X := ⟨_, rfl⟩
    rw [hh9, hU] at hZ
    rw [hU]
    try rw [hh9]
    rw [hh9] at hl8
    clear hU
    have hD := D5.of (g := g) (h8 := h8) (h9 := h9) (a := a) (q := (q1, q2)) (p := (p1, p2)) (x := (0, 0)) (y := (0, 0)) hZ.out (by simp) (by simp) (by simp) (by simp) (by simp) (by omega) hg8 (by omega)
    replace hD := Lib.hid hD
    clear hZ
    refine wp_region_held_drew (S := fun W => W.cell? ⟨h8, 0, none⟩ = some (.int .i64 q1) ∧ W.cell? ⟨h8, 1, none⟩ = some (.int .i64 q2) ∧ W.cell? ⟨g, 0, none⟩ = some (.int .i64 a.1) ∧ W.cell? ⟨g, 1, none⟩ = some (.int .i64 a.2) ∧ W.cell? ⟨h9, 0, none⟩ = some (.int .i64 p1) ∧ W.cell? ⟨h9, 1, none⟩ = some (.int .i64 p2)) (by kernel_rfl) hD.out.S (fun hHeld => ?_)
    replace hD := Lib.hid hD.out.drew
    refine wpAnyH_take (i := 0) (oi := { dst := some 32, op := _, type := _, pos := _, after := _, guard := _ }) (v := ?_) rfl (by kernel_rfl) (by kernel_rfl) (by kernel_rfl) (fun _ _ _ h => h) (Or.inl ⟨by rfl, ?_⟩) (by assumption) ?_
    rotate_left
    focus ((intro w hSw); (try dsimp only at hSw); go_simp; (try (with_reducible rfl)))
    try simp only [Act.put, List.setIfInBounds_toArray, List.set_cons_zero, List.set_cons_succ]
    refine wpAnyH_take (i := 1) (oi := { dst := some 33, op := _, type := _, pos := _, after := _, guard := _ }) (v := ?_) rfl (by kernel_rfl) (by kernel_rfl) (by kernel_rfl) (fun _ _ _ h => h) (Or.inl ⟨by rfl, ?_⟩) (by assumption) ?_
    rotate_left
    focus ((intro w hSw); (try dsimp only at hSw); go_simp; (try (with_reducible rfl)))
    try simp only [Act.put, List.setIfInBounds_toArray, List.set_cons_zero, List.set_cons_succ]
    refine wpAnyH_take (i := 2) (oi := { dst := some 34, op := _, type := _, pos := _, after := _, guard := _ }) (v := ?_) rfl (by kernel_rfl) (by kernel_rfl) (by kernel_rfl) (fun _ _ _ h => h) (Or.inl ⟨by rfl, ?_⟩) (by assumption) ?_
    rotate_left
    focus ((intro w hSw); (try dsimp only at hSw); go_simp; (try (with_reducible rfl)))
    try simp only [Act.put, List.setIfInBounds_toArray, List.set_cons_zero, List.set_cons_succ]
    clear hHeld
    refine wpAnyH_ready (rs := [3]) (by kernel_rfl) (by simp) ?_
    refine AllReadyH.cons (o := { dst := some 35, op := _, type := _, pos := _, after := _, guard := _ }) rfl (fun K hK => ?_) AllReadyH.nil
    go_simp
    refine Calls.mono (rs.out _) ?_
    rintro e w4 ⟨rfl, hb_⟩
    replace hD := Lib.hid (hD.out.bel hb_)
    clear hb_
    go_wp2_with (fail)
    refine hK.out _ _ hD.out.S (fun hHeld => ?_)
    clear hK K
    try simp only [Act.put, List.setIfInBounds_toArray, List.set_cons_zero, List.set_cons_succ]
    have x0 := hD.out.x.cell 0
    have x1 := hD.out.x.cell 1
    have x2 := hD.out.x.free 0
    have x3 := hD.out.x.free 1
    have y0 := hD.out.y.cell 0
    have y1 := hD.out.y.cell 1
    have y2 := hD.out.y.free 0
    have y3 := hD.out.y.free 1
    simp at x0 x1 y0 y1
    refine wpAnyH_ready (rs := [4]) (by kernel_rfl) (by simp) ?_
    refine AllReadyH.cons (o := { dst := none, op := _, type := _, pos := _, after := _, guard := _ }) rfl (fun K hK => ?_) AllReadyH.nil
    go_simp
    replace hD := Lib.hid (hD.out.put2 (q1, q2))
    refine hK _ _ hD.out.S (fun hHeld => ?_)
    clear hK K hHeld x0 x1 x2 x3 y0 y1 y2 y3
    try simp only [Act.put, List.setIfInBounds_toArray, List.set_cons_zero, List.set_cons_succ]
    have x0 := hD.out.x.cell 0
    have x1 := hD.out.x.cell 1
    have x2 := hD.out.x.free 0
    have x3 := hD.out.x.free 1
    have y0 := hD.out.y.cell 0
    have y1 := hD.out.y.cell 1
    have y2 := hD.out.y.free 0
    have y3 := hD.out.y.free 1
    simp at x0 x1 y0 y1
    refine wpAnyH_ready (rs := [5]) (by kernel_rfl) (by simp) ?_
    refine AllReadyH.cons (o := { dst := none, op := _, type := _, pos := _, after := _, guard := _ }) rfl (fun K hK => ?_) AllReadyH.nil
    go_simp
    replace hD := Lib.hid (hD.out.put3 (a.1 - p1, a.2 - p2))
    refine hK _ _ hD.out.S (fun hHeld => ?_)
    clear hK K hHeld x0 x1 x2 x3 y0 y1 y2 y3
    try simp only [Act.put, List.setIfInBounds_toArray, List.set_cons_zero, List.set_cons_succ]
    refine wpAnyH_done (by kernel_rfl) ?_ _
    have x0 := hD.out.x.cell 0
    have x1 := hD.out.x.cell 1
    have x2 := hD.out.x.free 0
    have x3 := hD.out.x.free 1
    have y0 := hD.out.y.cell 0
    have y1 := hD.out.y.cell 1
    have y2 := hD.out.y.free 0
    have y3 := hD.out.y.free 1
    simp at x0 x1 y0 y1
    go_wp2_with (fail)
    obtain ⟨w9, hw9⟩ : ∃ w9, ((((w4.setCell ⟨g + 1 + 1, 0, none⟩ (.int .i64 q1)).setCell ⟨g + 1 + 1, 1, none⟩ (.int .i64 q2)).setCell ⟨g + 1 + 1 + 1, 0, none⟩ (.int .i64 (a.1 - p1))).setCell ⟨g + 1 + 1 + 1, 1, none⟩ (.int .i64 (a.2 - p2))) = w9 := ⟨_, rfl⟩
    have hB9 := hD.out.z.1
    rw [hw9] at x0 x1 y0 y1 hB9
    rw [hw9]
    clear hD hw9 x2 x3 y2 y3
    refine bodyPost_ret (by simp [results, Tryd.results19, go_sem, *]; rfl) rfl ?_
    exact ⟨rfl, by rw [← hg]; exact hB9⟩)
end Go.Proofs.YtmmfjonoenmplaaDoor
