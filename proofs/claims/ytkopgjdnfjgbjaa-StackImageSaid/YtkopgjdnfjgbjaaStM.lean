import Derived.Test.YtkopgjdnfjgbjaaStL
namespace Go.Proofs.Ytkopgjdnfjgbjaa
open Go.RowKit
set_option linter.unusedVariables false
set_option linter.unusedSimpArgs false
/-! begun: three stacks, and the document's -/
/-- the document's stacks: cells by region, depths by stack -/
structure Rs (w0 W : World) (a : Ads) (xs : Nat → List Int) (d : Nat → Nat) : Prop where
  q : ∀ k, k < 3 → Rf W (a.r k) (a.g k) (xs (rgOf k)) (d k) (unOf k) (ovOf k)
  ne : ∀ i j, i < 3 → j < 3 → i ≠ j → a.r i ≠ a.r j
  ng : a.g4 ≠ a.g5
  lo : ∀ k, k < 3 → w0.heap.size ≤ a.r k ∧ w0.heap.size ≤ a.g k
theorem Rf.bel {W W' : World} {p g : Nat} {xs : List Int} {d : Nat} {un ov : Int} (h : Rf W p g xs d un ov) (hb : Below W.heap.size W W') : Rf W' p g xs d un ov := ⟨h.st.kept hb h.st.lt, h.row.kept hb h.row.lt⟩
theorem Rs.bel {w0 W W' : World} {a : Ads} {xs : Nat → List Int} {d : Nat → Nat} (h : Rs w0 W a xs d) (hb : Below W.heap.size W W') : Rs w0 W' a xs d := ⟨fun k hk => (h.q k hk).bel hb, h.ne, h.ng, h.lo⟩
/-- what begun has at hand -/
structure Bg (w0 W : World) (y rg sz wp ip b : Nat) (L : Lay) (vs : Array Value) : Prop where
  im : Im W ip b L (List.replicate L.b6 0) false false
  wl : Bk W wp 46 vs
  rr : Bk W rg 3 #[.int .i64 4, .int .i64 5, .int .i64 4]
  ss : Bk W sz 3 #[.int .i64 L.d, .int .i64 L.r, .int .i64 L.d]
  low : w0.heap.size ≤ wp ∧ w0.heap.size ≤ ip ∧ w0.heap.size ≤ b
  be : Below w0.heap.size w0 W
section
variable {w0 W W' : World} {y rg sz wp ip b : Nat} {L : Lay} {vs : Array Value}
theorem Bg.bel (h : Bg w0 W y rg sz wp ip b L vs) (hb : Below W.heap.size W W') : Bg w0 W' y rg sz wp ip b L vs :=
  ⟨h.im.bel hb, h.wl.kept hb h.wl.lt, h.rr.kept hb h.rr.lt, h.ss.kept hb h.ss.lt, h.low, h.be.trans (hb.mono h.be.size)⟩
theorem Bg.put (h : Bg w0 W y rg sz wp ip b L vs) (i : Nat) (u : Value) : Bg w0 (W.setCell ⟨wp, i, none⟩ u) y rg sz wp ip b L (vs.setIfInBounds i u) :=
  ⟨h.im.far (h.im.st.ne h.wl (by decide)) (h.im.by_.ne h.wl (by decide)) u, h.wl.put i u, h.rr.other (h.rr.ne h.wl (by decide)) u, h.ss.other (h.ss.ne h.wl (by decide)) u, h.low, h.be.setCell h.low.1 u⟩
end
theorem Rf.only {W W' : World} {p g k : Nat} {xs : List Int} {d : Nat} {un ov : Int} (h : Rf W p g xs d un ov) (hb : Only k W W') (h1 : p ≠ k) (h2 : g ≠ k) : Rf W' p g xs d un ov := ⟨hb.bk h.st h1, hb.bk h.row h2⟩
set_option maxHeartbeats 4000000 in
theorem begun_any (d r : Int) (w : World) :
    Calls Try.prog 17 #[LV (layOf4 d r)] w fun e w' => ∃ a : Ads, e = .returned (.pointer (some ⟨a.wp, 0, none⟩)) ∧ Wd w w' a (layOf4 d r) (List.replicate (layOf4 d r).b6 0) (fun _ => 0) ∧ Rs w w' a (fun rg => List.replicate (roomOf (layOf4 d r) rg) 0) (fun _ => 0) := by
  have hN := fun w1 => new4 d r w1
  have hok := layOf4_ok d r
  obtain ⟨L, hL⟩ : ∃ L, layOf4 d r = L := ⟨_, rfl⟩
  rw [hL] at hok ⊢
  simp only [hL] at hN
  have hm := Lay.mono hok
  have hsz4 : L.d = 8 * roomOf L 4 := by
    have e := (reg_lies hok 4 (by decide)).up
    have e2 : L.beg (4 + 1) = L.beg 4 + L.d := rfl
    omega
  have hsz5 : L.r = 8 * roomOf L 5 := by
    have e := (reg_lies hok 5 (by decide)).up
    have e2 : L.beg (5 + 1) = L.beg 5 + L.r := rfl
    omega
  have hroom4 : roomOf L 4 ≤ 17920 := by
    have := ((reg_lies hok 4 (by decide)).even hok).2
    omega
  have hroom5 : roomOf L 5 ≤ 17920 := by
    have := ((reg_lies hok 5 (by decide)).even hok).2
    omega
  replace hN := Lib.hid hN
  replace hL := Lib.hid hL
  replace hok := Lib.hid hok
  replace hm := Lib.hid hm
  replace hsz4 := Lib.hid hsz4
  replace hsz5 := Lib.hid hsz5
  unfold LV layV
  go_enter Try.func17, Try.ntmps17
  go_wp2_with (fail)
  obtain ⟨V, hV⟩ : ∃ V, w.alloc (.cells #[.int .i64 L.k, .int .i64 L.s, .int .i64 L.u, .int .i64 L.d, .int .i64 L.r] 24) = V := ⟨_, rfl⟩
  have hbV : Below w.heap.size w V := by rw [← hV]; exact (Below.refl _ _).alloc (Nat.le_refl _) _
  have hW : Bk V w.heap.size 24 #[.int .i64 L.k, .int .i64 L.s, .int .i64 L.u, .int .i64 L.d, .int .i64 L.r] := by rw [← hV]; exact Bk.fresh w _ _
  obtain ⟨y, hy⟩ : ∃ y, w.heap.size = y := ⟨_, rfl⟩
  rw [hV]
  rw [hy] at hW ⊢
  clear hV
  refine (hN.out V).mono ?_
  rintro e w3 ⟨ip, b, rfl, hI, z1, z2, hb3⟩
  replace hW := hW.kept hb3 hW.lt
  have Hb3 : Below w.heap.size w w3 := hbV.trans (hb3.mono hbV.size)
  have zi : w.heap.size ≤ ip := Nat.le_trans hbV.size z1
  have zb : w.heap.size ≤ b := Nat.le_trans hbV.size z2
  obtain ⟨O1, hO1⟩ : ∃ O1, Obj.cells #[.pointer (some ⟨ip, 0, none⟩), .pointer none, .pointer none, .pointer none, .pointer none, .pointer none, .pointer none] 46 = O1 := ⟨_, rfl⟩
  obtain ⟨O2, hO2⟩ : ∃ O2, Obj.cells #[.int .i64 4, .int .i64 5, .int .i64 4] 3 = O2 := ⟨_, rfl⟩
  obtain ⟨O3, hO3⟩ : ∃ O3, Obj.cells #[.int .i64 L.d, .int .i64 L.r, .int .i64 L.d] 3 = O3 := ⟨_, rfl⟩
  have y3 := ((hW.past O1).past O2).cell 3
  have y4 := ((hW.past O1).past O2).cell 4
  simp at y3 y4
  have hG : Bg w (((w3.alloc O1).alloc O2).alloc O3) y (w3.heap.size + 1) (w3.heap.size + 1 + 1) w3.heap.size ip b L #[.pointer (some ⟨ip, 0, none⟩), .pointer none, .pointer none, .pointer none, .pointer none, .pointer none, .pointer none] := by
    refine ⟨((hI.past O1).past O2).past O3, ?_, ?_, ?_, ⟨?_, ?_, ?_⟩, ?_⟩
    · rw [← hO1]; exact ((Bk.fresh w3 _ _).past O2).past O3
    · rw [← hO2]
      have := (Bk.fresh (w3.alloc O1) 3 #[.int .i64 4, .int .i64 5, .int .i64 4]).past O3
      rw [World.size_alloc] at this
      exact this
    · rw [← hO3]
      have := (Bk.fresh ((w3.alloc O1).alloc O2) 3 #[.int .i64 L.d, .int .i64 L.r, .int .i64 L.d])
      rw [World.size_alloc, World.size_alloc] at this
      exact this
    · exact Hb3.size
    · exact zi
    · exact zb
    · exact ((Hb3.alloc Hb3.size _).alloc (Nat.le_trans Hb3.size (by simp)) _).alloc (Nat.le_trans Hb3.size (by simp; omega)) _
  replace hG := Lib.hid hG
  clear hI hW hb3 hbV
  go_wp2_with (fail)
  obtain ⟨V2, hV2⟩ : ∃ V2, ((w3.alloc O1).alloc O2).alloc O3 = V2 := ⟨_, rfl⟩
  rw [hV2] at hG ⊢
  obtain ⟨wp, hwp⟩ : ∃ wp, w3.heap.size = wp := ⟨_, rfl⟩
  rw [hwp] at hG ⊢
  obtain ⟨sz, hsz⟩ : ∃ sz, wp + 1 + 1 = sz := ⟨_, rfl⟩
  rw [hsz] at hG ⊢
  obtain ⟨rg, hrg⟩ : ∃ rg, wp + 1 = rg := ⟨_, rfl⟩
  rw [hrg] at hG ⊢
  have hV0 := Lib.hid hG.out.be.size
  clear hV2 hwp hsz hrg y3 y4 hO1 hO2 hO3 Hb3 zi zb z1 z2 hy
  refine wp_loop_rounds 4 ?_
  rw [rounds_succ]
  have cr := hG.out.rr.cell 0
  simp at cr
  go_wp2_with (fail)
  refine (stnew_data hG.out.im).mono ?_
  rintro e v1 ⟨q0, rfl, lq0, hS0, ha⟩
  replace hG := Lib.hid (hG.out.bel ha)
  replace hS0 := Lib.hid hS0
  replace lq0 := Lib.hid lq0
  have cr := hG.out.rr.cell 0
  have cs := hG.out.ss.cell 0
  simp at cr cs
  have hnew := rnew_data (roomOf L 4) hroom4 v1.drew
  rw [← hsz4.out] at hnew
  replace hnew := Lib.hid hnew
  have zr := hG.out.rr.lt
  have zs := hG.out.ss.lt
  obtain ⟨vs, hvs⟩ : ∃ vs, L.d = vs := ⟨_, rfl⟩
  rw [hvs] at cs hnew
  replace ha := Lib.hid ha
  go_wp2_with (fail)
  go_region_held3 (fun w' => w'.cell? ⟨rg, 0, none⟩ = some (.int .i64 4) ∧ w'.cell? ⟨sz, 0, none⟩ = some (.int .i64 vs)) ((simp [go_sem, *]))
    ((go_at_call 13; (with_reducible refine Calls.mono hnew.out ?_); rintro e v2 ⟨p0, g0, rfl, lp0, lg0, hR0, hb⟩; have kS : v2.cell? ⟨rg, 0, none⟩ = some (.int .i64 4) ∧ v2.cell? ⟨sz, 0, none⟩ = some (.int .i64 vs) := by (refine ⟨?_, ?_⟩ <;> (refine carry hb (by first | omega | (simp only [World.size_drew]; omega)) ?_; simp [go_sem, *]))))
  clear hvs
  have hb : Below v1.heap.size v1 v2 := (⟨rfl, rfl, rfl, Nat.le_refl _, fun _ _ => rfl⟩ : Below v1.heap.size v1 v1.drew).trans hb
  replace lp0 := Lib.hid (Nat.le_trans ha.out.size lp0 : V2.heap.size ≤ p0)
  replace lg0 := Lib.hid (Nat.le_trans ha.out.size lg0 : V2.heap.size ≤ g0)
  replace hG := Lib.hid (hG.out.bel hb)
  replace hS0 := Lib.hid (hS0.out.bel hb)
  replace hR0 := Lib.hid hR0
  replace ha := Lib.hid (ha.out.trans (hb.mono ha.out.size))
  clear hb hnew cr cs zr zs kS
  have c1 := hG.out.wl.cell 1
  have c2 := hG.out.wl.cell 4
  have f1 := hG.out.wl.free 1
  have f2 := hG.out.wl.free 4
  simp at c1 c2
  go_wp2_with (fail)
  obtain ⟨X1, hX⟩ : ∃ X, (v2.setCell ⟨wp, 1, none⟩ (.pointer (some ⟨q0, 0, none⟩))).setCell ⟨wp, 4, none⟩ (.pointer (some ⟨p0, 0, none⟩)) = X := ⟨_, rfl⟩
  rw [hX]
  have hO := Lib.hid (by rw [← hX]; exact ((Only.of_below ha.out wp).put 1 _).put 4 _ : Only wp V2 X1)
  have hO2 := Lib.hid (by rw [← hX]; exact ((Only.refl wp v2).put 1 _).put 4 _ : Only wp v2 X1)
  replace hS0 := Lib.hid (hS0.out.only hO2.out (hS0.out.st.ne hG.out.wl (by decide)))
  replace hR0 := Lib.hid (hR0.out.only hO2.out (hR0.out.st.ne hG.out.wl (by decide)) (hR0.out.row.ne hG.out.wl (by decide)))
  replace hG := Lib.hid (hG.out.put 1 (.pointer (some ⟨q0, 0, none⟩)))
  replace hG := Lib.hid (hG.out.put 4 (.pointer (some ⟨p0, 0, none⟩)))
  rw [hX] at hG
  have up0 := Lib.hid (⟨hS0.out.st.lt, hR0.out.st.lt, hR0.out.row.lt⟩ : q0 < X1.heap.size ∧ p0 < X1.heap.size ∧ g0 < X1.heap.size)
  clear hX c1 c2 f1 f2 hO2 ha
  have hG0 := hG
  rw [rounds_succ]
  have cr := hG.out.rr.cell 1
  simp at cr
  go_wp2_with (fail)
  refine (stnew_ret hG.out.im).mono ?_
  rintro e v1 ⟨q1, rfl, lq1, hS1, ha⟩
  replace hG := Lib.hid (hG.out.bel ha)
  replace hS1 := Lib.hid hS1
  replace lq1 := Lib.hid lq1
  have cr := hG.out.rr.cell 1
  have cs := hG.out.ss.cell 1
  simp at cr cs
  have hnew := rnew_ret (roomOf L 5) hroom5 v1.drew
  rw [← hsz5.out] at hnew
  replace hnew := Lib.hid hnew
  have zr := hG.out.rr.lt
  have zs := hG.out.ss.lt
  obtain ⟨vs, hvs⟩ : ∃ vs, L.r = vs := ⟨_, rfl⟩
  rw [hvs] at cs hnew
  replace ha := Lib.hid ha
  go_wp2_with (fail)
  go_region_held3 (fun w' => w'.cell? ⟨rg, 1, none⟩ = some (.int .i64 5) ∧ w'.cell? ⟨sz, 1, none⟩ = some (.int .i64 vs)) ((simp [go_sem, *]))
    ((go_at_call 13; (with_reducible refine Calls.mono hnew.out ?_); rintro e v2 ⟨p1, g1, rfl, lp1, lg1, hR1, hb⟩; have kS : v2.cell? ⟨rg, 1, none⟩ = some (.int .i64 5) ∧ v2.cell? ⟨sz, 1, none⟩ = some (.int .i64 vs) := by (refine ⟨?_, ?_⟩ <;> (refine carry hb (by first | omega | (simp only [World.size_drew]; omega)) ?_; simp [go_sem, *]))))
  clear hvs
  have hb : Below v1.heap.size v1 v2 := (⟨rfl, rfl, rfl, Nat.le_refl _, fun _ _ => rfl⟩ : Below v1.heap.size v1 v1.drew).trans hb
  replace lp1 := Lib.hid (Nat.le_trans ha.out.size lp1 : X1.heap.size ≤ p1)
  replace lg1 := Lib.hid (Nat.le_trans ha.out.size lg1 : X1.heap.size ≤ g1)
  replace hG := Lib.hid (hG.out.bel hb)
  replace hS1 := Lib.hid (hS1.out.bel hb)
  replace hR1 := Lib.hid hR1
  replace ha := Lib.hid (ha.out.trans (hb.mono ha.out.size))
  clear hb hnew cr cs zr zs kS
  have c1 := hG.out.wl.cell 2
  have c2 := hG.out.wl.cell 5
  have f1 := hG.out.wl.free 2
  have f2 := hG.out.wl.free 5
  simp at c1 c2
  go_wp2_with (fail)
  obtain ⟨X2, hX⟩ : ∃ X, (v2.setCell ⟨wp, 2, none⟩ (.pointer (some ⟨q1, 0, none⟩))).setCell ⟨wp, 5, none⟩ (.pointer (some ⟨p1, 0, none⟩)) = X := ⟨_, rfl⟩
  rw [hX]
  have hO := Lib.hid (by rw [← hX]; exact ((Only.of_below ha.out wp).put 2 _).put 5 _ : Only wp X1 X2)
  have hO2 := Lib.hid (by rw [← hX]; exact ((Only.refl wp v2).put 2 _).put 5 _ : Only wp v2 X2)
  replace hS1 := Lib.hid (hS1.out.only hO2.out (hS1.out.st.ne hG.out.wl (by decide)))
  replace hR1 := Lib.hid (hR1.out.only hO2.out (hR1.out.st.ne hG.out.wl (by decide)) (hR1.out.row.ne hG.out.wl (by decide)))
  replace hG := Lib.hid (hG.out.put 2 (.pointer (some ⟨q1, 0, none⟩)))
  replace hG := Lib.hid (hG.out.put 5 (.pointer (some ⟨p1, 0, none⟩)))
  rw [hX] at hG
  have up1 := Lib.hid (⟨hS1.out.st.lt, hR1.out.st.lt, hR1.out.row.lt⟩ : q1 < X2.heap.size ∧ p1 < X2.heap.size ∧ g1 < X2.heap.size)
  clear hX c1 c2 f1 f2 hO2 ha
  replace hS0 := Lib.hid (hS0.out.only hO.out (hS0.out.st.ne hG0.out.wl (by decide)))
  replace hR0 := Lib.hid (hR0.out.only hO.out (hR0.out.st.ne hG0.out.wl (by decide)) (hR0.out.row.ne hG0.out.wl (by decide)))
  replace hG0 := hG
  rw [rounds_succ]
  have cr := hG.out.rr.cell 2
  simp at cr
  go_wp2_with (fail)
  refine (stnew_data hG.out.im).mono ?_
  rintro e v1 ⟨q2, rfl, lq2, hS2, ha⟩
  replace hG := Lib.hid (hG.out.bel ha)
  replace hS2 := Lib.hid hS2
  replace lq2 := Lib.hid lq2
  have cr := hG.out.rr.cell 2
  have cs := hG.out.ss.cell 2
  simp at cr cs
  have hnew := rnew_data (roomOf L 4) hroom4 v1.drew
  rw [← hsz4.out] at hnew
  replace hnew := Lib.hid hnew
  have zr := hG.out.rr.lt
  have zs := hG.out.ss.lt
  obtain ⟨vs, hvs⟩ : ∃ vs, L.d = vs := ⟨_, rfl⟩
  rw [hvs] at cs hnew
  replace ha := Lib.hid ha
  go_wp2_with (fail)
  go_region_held3 (fun w' => w'.cell? ⟨rg, 2, none⟩ = some (.int .i64 4) ∧ w'.cell? ⟨sz, 2, none⟩ = some (.int .i64 vs)) ((simp [go_sem, *]))
    ((go_at_call 13; (with_reducible refine Calls.mono hnew.out ?_); rintro e v2 ⟨p2, g2, rfl, lp2, lg2, hR2, hb⟩; have kS : v2.cell? ⟨rg, 2, none⟩ = some (.int .i64 4) ∧ v2.cell? ⟨sz, 2, none⟩ = some (.int .i64 vs) := by (refine ⟨?_, ?_⟩ <;> (refine carry hb (by first | omega | (simp only [World.size_drew]; omega)) ?_; simp [go_sem, *]))))
  clear hvs
  have hb : Below v1.heap.size v1 v2 := (⟨rfl, rfl, rfl, Nat.le_refl _, fun _ _ => rfl⟩ : Below v1.heap.size v1 v1.drew).trans hb
  replace lp2 := Lib.hid (Nat.le_trans ha.out.size lp2 : X2.heap.size ≤ p2)
  replace lg2 := Lib.hid (Nat.le_trans ha.out.size lg2 : X2.heap.size ≤ g2)
  replace hG := Lib.hid (hG.out.bel hb)
  replace hS2 := Lib.hid (hS2.out.bel hb)
  replace hR2 := Lib.hid hR2
  replace ha := Lib.hid (ha.out.trans (hb.mono ha.out.size))
  clear hb hnew cr cs zr zs kS
  have c1 := hG.out.wl.cell 3
  have c2 := hG.out.wl.cell 6
  have f1 := hG.out.wl.free 3
  have f2 := hG.out.wl.free 6
  simp at c1 c2
  go_wp2_with (fail)
  obtain ⟨X3, hX⟩ : ∃ X, (v2.setCell ⟨wp, 3, none⟩ (.pointer (some ⟨q2, 0, none⟩))).setCell ⟨wp, 6, none⟩ (.pointer (some ⟨p2, 0, none⟩)) = X := ⟨_, rfl⟩
  rw [hX]
  have hO := Lib.hid (by rw [← hX]; exact ((Only.of_below ha.out wp).put 3 _).put 6 _ : Only wp X2 X3)
  have hO2 := Lib.hid (by rw [← hX]; exact ((Only.refl wp v2).put 3 _).put 6 _ : Only wp v2 X3)
  replace hS2 := Lib.hid (hS2.out.only hO2.out (hS2.out.st.ne hG.out.wl (by decide)))
  replace hR2 := Lib.hid (hR2.out.only hO2.out (hR2.out.st.ne hG.out.wl (by decide)) (hR2.out.row.ne hG.out.wl (by decide)))
  replace hG := Lib.hid (hG.out.put 3 (.pointer (some ⟨q2, 0, none⟩)))
  replace hG := Lib.hid (hG.out.put 6 (.pointer (some ⟨p2, 0, none⟩)))
  rw [hX] at hG
  have up2 := Lib.hid (⟨hS2.out.st.lt, hR2.out.st.lt, hR2.out.row.lt⟩ : q2 < X3.heap.size ∧ p2 < X3.heap.size ∧ g2 < X3.heap.size)
  clear hX c1 c2 f1 f2 hO2 ha
  replace hS0 := Lib.hid (hS0.out.only hO.out (hS0.out.st.ne hG0.out.wl (by decide)))
  replace hR0 := Lib.hid (hR0.out.only hO.out (hR0.out.st.ne hG0.out.wl (by decide)) (hR0.out.row.ne hG0.out.wl (by decide)))
  replace hS1 := Lib.hid (hS1.out.only hO.out (hS1.out.st.ne hG0.out.wl (by decide)))
  replace hR1 := Lib.hid (hR1.out.only hO.out (hR1.out.st.ne hG0.out.wl (by decide)) (hR1.out.row.ne hG0.out.wl (by decide)))
  clear hG0
  rw [rounds_succ]
  go_wp2_with (fail)
  have e4 := hG.out.wl.cell 4
  have e6 := hG.out.wl.cell 6
  have d0 := hR0.out.st.cell 0
  have d2 := hR2.out.st.cell 0
  have f2 := hR2.out.st.free 0
  simp at e4 e6 d0 d2
  go_still_tail 15, (by kernel_rfl)
  change wpList _ _ _ _ _ X3.drew
  go_wp2_with (fail)
  go_returns
  obtain ⟨u0, v0, w0⟩ := up0.out
  obtain ⟨u1, v1, w1⟩ := up1.out
  obtain ⟨u2, v2, w2⟩ := up2.out
  obtain ⟨lw, li, lb⟩ := hG.out.low
  have lx : w.heap.size ≤ V2.heap.size := hV0.out
  have lq0 := lq0.out
  have lq1 := lq1.out
  have lq2 := lq2.out
  have lp0 := lp0.out
  have lp1 := lp1.out
  have lp2 := lp2.out
  have lg0 := lg0.out
  have lg1 := lg1.out
  clear lg2
  have hF : Only p2 X3 (X3.drew.setCell ⟨p2, 0, none⟩ (.slice (some ⟨g0, 0, none⟩) (roomOf L 4) (roomOf L 4))) := ((Only.refl p2 X3).draws 1).put 0 _
  refine ⟨⟨wp, ip, b, q0, q1, q2, p0, p1, p2, g0, g1⟩, rfl, ⟨hF.bk hG.out.wl (hG.out.wl.ne hR2.out.st (by decide)), hG.out.im.only hF (hG.out.im.st.ne hR2.out.st (by decide)) (hG.out.im.by_.ne hR2.out.st (by decide)), fun k hk => ?_, fun i j hi hj hij => ?_, ⟨lw, li, lb⟩, fun k hk => ?_, hG.out.be.trans (hF.below (by omega) hG.out.be.size)⟩, ⟨fun k hk => ?_, fun i j hi hj hij => ?_, by show g0 ≠ g1; omega, fun k hk => ?_⟩⟩
  · rcases (by omega : k = 0 ∨ k = 1 ∨ k = 2) with rfl | rfl | rfl
    · exact hS0.out.only hF (hS0.out.st.ne hR2.out.st (by decide))
    · exact hS1.out.only hF (hS1.out.st.ne hR2.out.st (by decide))
    · exact hS2.out.only hF (hS2.out.st.ne hR2.out.st (by decide))
  · rcases (by omega : i = 0 ∨ i = 1 ∨ i = 2) with rfl | rfl | rfl <;> rcases (by omega : j = 0 ∨ j = 1 ∨ j = 2) with rfl | rfl | rfl <;> first | exact absurd rfl hij | (simp only [Ads.s]; omega)
  · rcases (by omega : k = 0 ∨ k = 1 ∨ k = 2) with rfl | rfl | rfl <;> simp only [Ads.s] <;> omega
  · rcases (by omega : k = 0 ∨ k = 1 ∨ k = 2) with rfl | rfl | rfl
    · exact hR0.out.only hF (show p0 ≠ p2 by omega) (hR0.out.row.ne hR2.out.st (by decide))
    · exact hR1.out.only hF (show p1 ≠ p2 by omega) (hR1.out.row.ne hR2.out.st (by decide))
    · refine ⟨?_, hF.bk hR0.out.row (hR0.out.row.ne hR2.out.st (by decide))⟩
      have := (hR2.out.st.draws 1).put 0 (.slice (some ⟨g0, 0, none⟩) (roomOf L 4) (roomOf L 4))
      simp only [List.length_replicate] at this ⊢
      exact this
  · rcases (by omega : i = 0 ∨ i = 1 ∨ i = 2) with rfl | rfl | rfl <;> rcases (by omega : j = 0 ∨ j = 1 ∨ j = 2) with rfl | rfl | rfl <;> first | exact absurd rfl hij | (simp only [Ads.r]; omega)
  · rcases (by omega : k = 0 ∨ k = 1 ∨ k = 2) with rfl | rfl | rfl <;> simp only [Ads.r, Ads.g] <;> omega
end Go.Proofs.Ytkopgjdnfjgbjaa
