import Derived.Test.YtndgcndmkfjdgaaDoorPlQ
namespace Go.Proofs.YtndgcndmkfjdgaaDoor
open Go.RowKit Go.Extern.Stop Go.Stop Go.Extern
set_option linter.unusedVariables false
set_option linter.unusedSimpArgs false
/-! Same: its closure -/
def fitsZ (d : Pt) (x y : Mk) : Prop := (x.1.1 + d.1 = y.1.1 ∧ x.1.2 + d.2 = y.1.2) ∧ x.2.1 + d.1 = y.2.1 ∧ x.2.2 + d.2 = y.2.2
instance (d : Pt) (x y : Mk) : Decidable (fitsZ d x y) := by unfold fitsZ; infer_instance
/-- w turned n times lies on v -/
def fitsN (ws vs : List Mk) (n : Int) : Prop := ∀ i, i < ws.length → fitsZ ((vs.getD 0 m0).1.1 - (turnZ (ws.getD 0 m0).1 n).1, (vs.getD 0 m0).1.2 - (turnZ (ws.getD 0 m0).1 n).2) (both (fun z => turnZ z n) (ws.getD i m0)) (vs.getD i m0)
def sameZ (ws vs : List Mk) : Prop := rightZ ws ∧ rightZ vs ∧ ws.length = vs.length ∧ (ws = [] ∨ ∃ n : Nat, n < 4 ∧ fitsN ws vs n)
theorem nm_eql {x y : Nat × Nat} {a b : Int × Int} (hx : Nm x a) (hy : Nm y b) (w : World) : (binOp .eql 43 (.complex .f64 x.1 x.2) (.complex .f64 y.1 y.2)).run Tryd.prog w = .ok (.bool (decide (a.1 = b.1 ∧ a.2 = b.2))) w := by
  rw [run_eql_complex, wd_eql hx.1 hy.1, wd_eql hx.2 hy.2, Bool.decide_and]
set_option maxRecDepth 100000 in
set_option maxHeartbeats 4000000 in
theorem same1 {bx tx bb bo tb tq nb cb nt ct : Nat} (x y : Mw) (u s : Wp) (ξ η : Mk) (β τ : Pt) (W : World) (hbx : Bk W bx 24 #[.slice (some ⟨bb, bo, none⟩) nb cb]) (htx : Bk W tx 24 #[.slice (some ⟨tb, tq, none⟩) nt ct])
    (hb0 : 0 < nb) (ht0 : 0 < nt) (c0 : W.cell? ⟨bb, bo, none⟩ = some (.complex .f64 u.1 u.2)) (c1 : W.cell? ⟨tb, tq, none⟩ = some (.complex .f64 s.1 s.2)) (hu : Nm u β) (hs : Nm s τ) (hx : Nk x ξ) (hy : Nk y η) (sβ : Sm β 16777216) (sτ : Sm τ 16777216) (sξ : inR ξ) (sη : inR η) :
    Calls Tryd.prog 62 #[.agg #[.complex .f64 x.1.1 x.1.2, .complex .f64 x.2.1 x.2.2], .agg #[.complex .f64 y.1.1 y.1.2, .complex .f64 y.2.1 y.2.2], .pointer (some ⟨bx, 0, none⟩), .pointer (some ⟨tx, 0, none⟩)] W fun e W' => e = .returned (.bool (decide (fitsZ (β.1 - τ.1, β.2 - τ.2) ξ η))) ∧ Below W.heap.size W W' := by
  obtain ⟨r, hr, hsub⟩ := nm_sub hu hs (sm_mono sβ (by decide)) (sm_mono sτ (by decide)) 43
  have sd : Sm (β.1 - τ.1, β.2 - τ.2) 1125899906842624 := by unfold Sm at *; simp only; omega
  obtain ⟨p, hp, hadd1⟩ := nm_sum hx.1 hr (sm_mono sξ.1 (by decide)) sd 43
  obtain ⟨q, hq, hadd2⟩ := nm_sum hx.2 hr (sm_mono sξ.2 (by decide)) sd 43
  have heq1 := nm_eql hp hy.1
  have heq2 := nm_eql hq hy.2
  obtain ⟨r1, hr1⟩ : ∃ r, decide (ξ.1.1 + (β.1 - τ.1) = η.1.1 ∧ ξ.1.2 + (β.2 - τ.2) = η.1.2) = r := ⟨_, rfl⟩
  obtain ⟨r2, hr2⟩ : ∃ r, decide (ξ.2.1 + (β.1 - τ.1) = η.2.1 ∧ ξ.2.2 + (β.2 - τ.2) = η.2.2) = r := ⟨_, rfl⟩
  have hfin : decide (fitsZ (β.1 - τ.1, β.2 - τ.2) ξ η) = (r1 && r2) := by
    rw [← hr1, ← hr2, ← Bool.decide_and]; rfl
  rw [hfin]
  simp only [hr1, hr2] at heq1 heq2
  have hB := ((Below.refl W.heap.size W).alloc (Nat.le_refl _) (.cells #[.complex .f64 x.1.1 x.1.2, .complex .f64 x.2.1 x.2.2] 65)).alloc (by simp) (.cells #[.complex .f64 y.1.1 y.1.2, .complex .f64 y.2.1 y.2.2] 65)
  have kx := (Bk.fresh W 65 #[.complex .f64 x.1.1 x.1.2, .complex .f64 x.2.1 x.2.2]).past (.cells #[.complex .f64 y.1.1 y.1.2, .complex .f64 y.2.1 y.2.2] 65)
  have ky := Bk.fresh (W.alloc (.cells #[.complex .f64 x.1.1 x.1.2, .complex .f64 x.2.1 x.2.2] 65)) 65 #[.complex .f64 y.1.1 y.1.2, .complex .f64 y.2.1 y.2.2]
  rw [World.size_alloc] at ky
  have hbb := World.block_lt_of_cell? W _ c0
  have hbt := World.block_lt_of_cell? W _ c1
  have d0 := (hB.cell (p := ⟨bb, bo, none⟩) hbb).trans c0
  have d1 := (hB.cell (p := ⟨tb, tq, none⟩) hbt).trans c1
  have d2 := (hB.cell (p := ⟨bx, 0, none⟩) hbx.lt).trans (hbx.cell 0)
  have d3 := (hB.cell (p := ⟨tx, 0, none⟩) htx.lt).trans (htx.cell 0)
  have d4 := kx.cell 0
  have d5 := kx.cell 1
  have d6 := ky.cell 0
  have d7 := ky.cell 1
  obtain ⟨X, hX⟩ : ∃ X, (W.alloc (.cells #[.complex .f64 x.1.1 x.1.2, .complex .f64 x.2.1 x.2.2] 65)).alloc (.cells #[.complex .f64 y.1.1 y.1.2, .complex .f64 y.2.1 y.2.2] 65) = X := ⟨_, rfl⟩
  rw [hX] at d0 d1 d2 d3 d4 d5 d6 d7 hB
  simp at d2 d3 d4 d5 d6 d7
  replace hB := Lib.hid hB
  replace hX := Lib.hid hX
  clear hbx htx c0 c1 hu hs hx hy sβ sτ sξ sη hr sd hp hq hr1 hr2 hfin kx ky hbb hbt
  go_enter Tryd.func62, Tryd.ntmps62
  go_wp2_with (fail)
  rw [hX.out]
  go_quiet (fail)
  cases r1
  all_goals
    go_wp2_with (fail)
    go_returns
    first | exact ⟨rfl, hB.out⟩ | exact ⟨rfl, below_drew hB.out⟩ | exact ⟨rfl, below_drewN hB.out⟩ | exact ⟨by simp, below_drew hB.out⟩ | exact ⟨by simp, below_drewN hB.out⟩
/-- slices.EqualFunc, with the closure of Same -/
abbrev mkV (x : Mw) : Value := .agg #[.complex .f64 x.1.1 x.1.2, .complex .f64 x.2.1 x.2.2]
set_option maxRecDepth 100000 in
set_option maxHeartbeats 4000000 in
theorem eqf_any (A1 A2 : Option Addr) (xs ys : List Mw) (zs vs : List Mk) (n c1 c2 bx tx : Nat) (d : Pt) (w : World) (hx : xs.length = n) (hy : ys.length = n) (hn : n ≤ 4096) (h1 : Mks w A1 xs) (h2 : Mks w A2 ys) (k1 : Nks xs zs) (k2 : Nks ys vs)
    (i1 : ∀ i, i < n → inR (zs.getD i m0)) (i2 : ∀ i, i < n → inR (vs.getD i m0))
    (hC : ∀ W, Below w.heap.size w W → ∀ (x y : Mw) (ξ η : Mk), Nk x ξ → Nk y η → inR ξ → inR η → Calls Tryd.prog 62 #[mkV x, mkV y, .pointer (some ⟨bx, 0, none⟩), .pointer (some ⟨tx, 0, none⟩)] W fun e W' => e = .returned (.bool (decide (fitsZ d ξ η))) ∧ Below W.heap.size W W')
    (r : Bool) (hr : r = true ↔ ∀ i, i < n → fitsZ d (zs.getD i m0) (vs.getD i m0)) :
    Calls Tryd.prog 61 #[.slice A1 n c1, .slice A2 n c2, .func (.func 62) #[] #[.pointer (some ⟨bx, 0, none⟩), .pointer (some ⟨tx, 0, none⟩)]] w fun e w' => e = .returned (.bool r) ∧ Below w.heap.size w w' := by
  have hn4 : (n : Int) ≤ 4096 := by omega
  replace h1 := Lib.hid h1
  replace h2 := Lib.hid h2
  replace k1 := Lib.hid k1
  replace k2 := Lib.hid k2
  replace i1 := Lib.hid i1
  replace i2 := Lib.hid i2
  replace hC := Lib.hid hC
  replace hr := Lib.hid hr
  replace hx := Lib.hid hx
  replace hy := Lib.hid hy
  go_enter Tryd.func61, Tryd.ntmps61
  go_wp2_with (fail)
  go_loopw [17] (fun x wr => ∃ j : Nat, x = .int .i64 j ∧ j ≤ n ∧ Hid ((∀ i, i < j → fitsZ d (zs.getD i m0) (vs.getD i m0)) ∧ Below w.heap.size w wr)) (fun x _ => n - (intOf x).toNat)
  case atStart => exact ⟨0, rfl, Nat.zero_le _, Lib.hid ⟨fun i h => absurd h (Nat.not_lt_zero _), Below.refl _ _⟩⟩
  case round =>
    obtain ⟨j, rfl, hj0, hQ⟩ := hrel
    by_cases hj : j < n
    · have j0 : (j : Int) < (n : Int) := by omega
      have jl1 : j < xs.length := by rw [hx.out]; exact hj
      have jl2 : j < ys.length := by rw [hy.out]; exact hj
      obtain ⟨b, off, rfl, hbl, a0, a1, lt1⟩ := h1.out j jl1
      obtain ⟨b', off', rfl, hbl', e0, e1, lt2⟩ := h2.out j jl2
      obtain ⟨⟨⟨p1, p2⟩, q1, q2⟩, hxj⟩ : ∃ p, xs[j] = p := ⟨_, rfl⟩
      obtain ⟨⟨⟨s1, s2⟩, t1, t2⟩, hyj⟩ : ∃ p, ys[j] = p := ⟨_, rfl⟩
      rw [hxj] at a0 a1
      rw [hyj] at e0 e1
      simp only at a0 a1 e0 e1
      have hB := hQ.out.2
      replace a0 := (hB.cell (p := ⟨b, off + j * 2, none⟩) hbl).trans a0
      replace a1 := (hB.cell (p := ⟨b, off + j * 2 + 1, none⟩) hbl).trans a1
      have hB1 : Below w.heap.size w (wr.alloc (.cells #[.complex .f64 p1 p2, .complex .f64 q1 q2] 65)) := hB.alloc hB.size _
      have o0 := (hB1.cell (p := ⟨b', off' + j * 2, none⟩) hbl').trans e0
      have o1 := (hB1.cell (p := ⟨b', off' + j * 2 + 1, none⟩) hbl').trans e1
      have hB2 := hB1.alloc hB1.size (.cells #[.complex .f64 s1 s2, .complex .f64 t1 t2] 65)
      obtain ⟨fb, hfb⟩ : ∃ fb, decide (fitsZ d (zs.getD j m0) (vs.getD j m0)) = fb := ⟨_, rfl⟩
      have hc := hC.out _ hB2 ((p1, p2), q1, q2) ((s1, s2), t1, t2) (zs.getD j m0) (vs.getD j m0) (by rw [← hxj]; exact k1.out.2 j jl1) (by rw [← hyj]; exact k2.out.2 j jl2) (i1.out j hj) (i2.out j hj)
      rw [hfb] at hc
      unfold mkV at hc
      simp only at hc
      replace hc := Lib.hid hc
      replace hB2 := Lib.hid hB2
      replace hfb := Lib.hid hfb
      clear lt1 lt2
      clear hbl hbl' e0 e1 hxj hyj hB hB1 jl1 jl2
      cases fb
      · have hrf : r = false := by
          cases r
          · rfl
          · exact absurd (hr.out.1 rfl j hj) (of_decide_eq_false hfb.out)
        subst hrf
        clear hr hfb
        go_wp2_with (fail)
        refine hc.out.mono ?_
        rintro e w3 ⟨rfl, hb⟩
        go_wp2_with (fail)
        go_returns
        exact ⟨rfl, hB2.out.trans (hb.mono hB2.out.size)⟩
      · have hnext : ∀ i, i < j + 1 → fitsZ d (zs.getD i m0) (vs.getD i m0) := fun i hi => by
          rcases Nat.lt_succ_iff_lt_or_eq.1 hi with h | rfl
          · exact hQ.out.1 i h
          · exact of_decide_eq_true hfb.out
        replace hnext := Lib.hid hnext
        clear hQ hfb
        go_wp2_with (fail)
        refine hc.out.mono ?_
        rintro e w3 ⟨rfl, hb⟩
        replace hb := Lib.hid (hB2.out.trans (hb.mono hB2.out.size))
        clear hc hB2
        go_wp2_with (fail)
        exact ⟨⟨j + 1, rfl, by omega, Lib.hid ⟨hnext.out, hb.out⟩⟩, by simp [intOf]; omega⟩
    · have j0 : ¬ (j : Int) < (n : Int) := by omega
      have hrt : r = true := hr.out.2 fun i hi => hQ.out.1 i (by omega)
      subst hrt
      go_wp2_with (fail)
      go_returns
      exact ⟨rfl, hQ.out.2⟩
theorem map_getD {zs : List Mk} {g : Pt → Pt} {i : Nat} (h : i < zs.length) : (zs.map (both g)).getD i m0 = both g (zs.getD i m0) := by
  rw [List.getD_eq_getElem?_getD, List.getD_eq_getElem?_getD, List.getElem?_map, List.getElem?_eq_getElem h]; rfl
theorem nks_map {zs : List Mk} (h : ∀ i, i < zs.length → inR (zs.getD i m0)) : Nks (zs.map mkW) zs := by
  refine ⟨by simp, fun i hi => ?_⟩
  rw [List.length_map] at hi
  rw [List.getElem_map]
  have := mkW_nk (h i hi)
  rwa [List.getD_eq_getElem?_getD, List.getElem?_eq_getElem hi] at this ⊢
theorem Dr.inR {xs : List Mw} {zs : List Mk} (h : Dr xs zs) {i : Nat} (hi : i < zs.length) : inR (zs.getD i m0) := by
  have := h.2.2 i (by rw [← h.1]; exact hi)
  exact ⟨this.2.1, this.2.2.1⟩
theorem Dr.nks {xs : List Mw} {zs : List Mk} (h : Dr xs zs) : Nks xs zs := ⟨h.1, fun i hi => (h.2.2 i hi).1⟩
set_option maxRecDepth 100000 in
set_option maxHeartbeats 4000000 in
theorem psame_ok (A1 A2 : Option Addr) (xs ys : List Mw) (zs vs : List Mk) (n c1 c2 : Nat) (w : World) (hx : xs.length = n) (hy : ys.length = n) (h1 : Mks w A1 xs) (h2 : Mks w A2 ys) (hD : Dr xs zs) (hE : Dr ys vs) (r : Bool) (hr : r = true ↔ (n = 0 ∨ ∃ k : Nat, k < 4 ∧ fitsN zs vs k)) :
    Calls Tryd.prog 41 #[.slice A1 n c1, .slice A2 n c2] w fun e w' => e = .returned (.bool r) ∧ Below w.heap.size w w' := by
  have hzl : zs.length = n := by rw [hD.1, hx]
  have hvl : vs.length = n := by rw [hE.1, hy]
  have hn : n ≤ 4096 := by have := hD.2.1; omega
  have hn4 : (n : Int) ≤ 4096 := by omega
  have hbk := Bk.fresh w 24 #[.slice A2 n c2]
  have hB := (Below.refl w.heap.size w).alloc (Nat.le_refl _) (.cells #[.slice A2 n c2] 24)
  obtain ⟨X, hX⟩ : ∃ X, w.alloc (.cells #[.slice A2 n c2] 24) = X := ⟨_, rfl⟩
  obtain ⟨bx, hbx⟩ : ∃ bx, w.heap.size = bx := ⟨_, rfl⟩
  rw [hX, hbx] at hbk
  rw [hX] at hB
  have c0 := hbk.cell 0
  simp at c0
  have hp1 := Lib.hid (pright_any A1 xs n c1 X hx (h1.kept hB) true ⟨fun _ => hD.rg, fun _ => rfl⟩)
  have hp2 := Lib.hid (fun W (hb : Below X.heap.size X W) => pright_any A2 ys n c2 W hy (h2.kept (hB.trans (hb.mono hB.size))) true ⟨fun _ => hE.rg, fun _ => rfl⟩)
  have htn := Lib.hid (fun (j : Nat) W (hb : Below X.heap.size X W) => pturned_any A1 xs zs n c1 j W hx (h1.kept (hB.trans (hb.mono hB.size))) hD)
  replace h1 := Lib.hid h1
  replace h2 := Lib.hid h2
  replace hD := Lib.hid hD
  replace hE := Lib.hid hE
  replace hbk := Lib.hid hbk
  replace hB := Lib.hid hB
  replace hzl := Lib.hid hzl
  replace hvl := Lib.hid hvl
  replace hx := Lib.hid hx
  replace hy := Lib.hid hy
  replace hr := Lib.hid hr
  replace hn := Lib.hid hn
  go_enter Tryd.func41, Tryd.ntmps41
  go_wp2_with (fail)
  refine hp1.out.mono ?_
  rintro e w3 ⟨rfl, hb3⟩
  have c3 := (hb3.cell (p := ⟨bx, 0, none⟩) hbk.out.lt).trans c0
  replace hb3 := Lib.hid hb3
  clear hp1
  go_wp2_with (fail)
  refine (hp2.out _ hb3.out).mono ?_
  rintro e w4 ⟨rfl, hb4⟩
  have hW : Hid (Below X.heap.size X w4) := Lib.hid (hb3.out.trans (hb4.mono hb3.out.size))
  clear hp2 hb3 hb4 c3
  go_wp2_with (fail)
  go_loopw [23] (fun x wr => ∃ j : Nat, x = .int .i64 j ∧ j ≤ 4 ∧ Hid ((∀ i, i < j → ¬ (n = 0 ∨ fitsN zs vs i)) ∧ Below X.heap.size X wr)) (fun x _ => 4 - (intOf x).toNat)
  case atStart => exact ⟨0, rfl, by decide, Lib.hid ⟨fun i h => absurd h (Nat.not_lt_zero _), hW.out⟩⟩
  case round =>
    obtain ⟨j, rfl, hj0, hQ⟩ := hrel
    by_cases hj : j < 4
    · have j0 : (j : Int) < 4 := by omega
      go_wp2_with (fail)
      refine (htn.out j _ hQ.out.2).mono ?_
      rintro e w5 ⟨A5, c5, rfl, hM5, hb5⟩
      have hB5 := hQ.out.2.trans (hb5.mono hQ.out.2.size)
      have kt := Bk.fresh w5 24 #[.slice A5 n c5]
      have hB6 := hB5.alloc hB5.size (.cells #[.slice A5 n c5] 24)
      have hM6 := hM5.kept ((Below.refl w5.heap.size w5).alloc (Nat.le_refl _) (.cells #[.slice A5 n c5] 24))
      obtain ⟨Y, hY⟩ : ∃ Y, w5.alloc (.cells #[.slice A5 n c5] 24) = Y := ⟨_, rfl⟩
      obtain ⟨tx, htx⟩ : ∃ tx, w5.heap.size = tx := ⟨_, rfl⟩
      rw [hY, htx] at kt
      rw [hY] at hB6 hM6
      have d0 := kt.cell 0
      simp at d0
      have d1 := (hB6.cell (p := ⟨bx, 0, none⟩) hbk.out.lt).trans c0
      have hbY := hbk.out.kept hB6 hbk.out.lt
      have hM2 := h2.out.kept (hB.out.trans (hB6.mono hB.out.size))
      by_cases hn0 : n = 0
      · have hrt : r = true := hr.out.2 (.inl hn0)
        subst hrt
        have n0 : (n : Int) = 0 := by omega
        replace hB6 := Lib.hid hB6
        replace hn0 := Lib.hid hn0
        clear hr hQ hM5 hb5 hB5 kt hM6 hbY hM2 htn
        go_wp2_with (fail)
        go_returns
        exact ⟨rfl, hB.out.trans (hB6.out.mono hB.out.size)⟩
      · have n0 : ¬ (n : Int) = 0 := by omega
        obtain ⟨r2, hr2⟩ : ∃ r2 : Bool, r2 = true ↔ fitsN zs vs j := by classical exact ⟨decide (fitsN zs vs j), decide_eq_true_iff⟩
        have hin0 : ∀ i, i < zs.length → inR (zs.getD i m0) := fun i hi => hD.out.inR hi
        have hin := turned_in (j : Int) hin0
        obtain ⟨ts, hts⟩ : ∃ ts, zs.map (both (fun z => turnZ z j)) = ts := ⟨_, rfl⟩
        have htl : ts.length = n := by rw [← hts, List.length_map, hzl.out]
        have hti : ∀ i, i < ts.length → inR (ts.getD i m0) := fun i hi => by
          rw [← hts, map_getD (by rw [hzl.out, ← htl]; exact hi)]
          exact hin i (by rw [hzl.out, ← htl]; exact hi)
        have ht0 : ts.getD 0 m0 = both (fun z => turnZ z j) (zs.getD 0 m0) := by rw [← hts, map_getD (by rw [hzl.out]; omega)]
        rw [hts] at hM6
        have nt := nks_map hti
        have np : 0 < n := by omega
        obtain ⟨bb, bo, e2, hbl, a0, a1, lt1⟩ := hM2 0 (by rw [hy.out]; exact np)
        obtain ⟨tb, tq, e5, hbl', b0, b1, lt2⟩ := hM6 0 (by rw [List.length_map, htl]; exact np)
        have nv := hE.out.nks.2 0 (by rw [hy.out]; exact np)
        have n5 := nt.2 0 (by rw [List.length_map, htl]; exact np)
        have iv := hE.out.inR (i := 0) (by rw [hvl.out]; exact np)
        have it := hti 0 (by rw [htl]; exact np)
        have hcl : ∀ W, Below Y.heap.size Y W → ∀ (x y : Mw) (ξ η : Mk), Nk x ξ → Nk y η → inR ξ → inR η → Calls Tryd.prog 62 #[mkV x, mkV y, .pointer (some ⟨bx, 0, none⟩), .pointer (some ⟨tx, 0, none⟩)] W fun e W' => e = .returned (.bool (decide (fitsZ ((vs.getD 0 m0).1.1 - (ts.getD 0 m0).1.1, (vs.getD 0 m0).1.2 - (ts.getD 0 m0).1.2) ξ η))) ∧ Below W.heap.size W W' := fun W hW x y ξ η hx hy ix iy =>
          same1 x y _ _ ξ η (vs.getD 0 m0).1 (ts.getD 0 m0).1 W (e2 ▸ hbY.kept hW hbY.lt) (e5 ▸ kt.kept hW kt.lt) np np ((hW.cell (p := ⟨bb, bo + 0 * 2, none⟩) hbl).trans a0) ((hW.cell (p := ⟨tb, tq + 0 * 2, none⟩) hbl').trans b0) nv.1 n5.1 hx hy iv.1 it.1 ix iy
        have heq := Lib.hid (eqf_any A5 A2 (ts.map mkW) ys ts vs n c5 c2 bx tx _ Y (by rw [List.length_map, htl]) hy.out hn.out hM6 hM2 nt hE.out.nks (fun i hi => hti i (by rw [htl]; exact hi)) (fun i hi => hE.out.inR (by rw [hvl.out]; exact hi)) hcl r2 (by
          rw [hr2]
          unfold fitsN
          rw [hzl.out, ht0]
          constructor
          · intro hh i hi
            rw [← hts, map_getD (by rw [hzl.out]; exact hi)]
            exact hh i hi
          · intro hh i hi
            have := hh i hi
            rw [← hts, map_getD (by rw [hzl.out]; exact hi)] at this
            exact this))
        replace hB6 := Lib.hid hB6
        replace hn0 := Lib.hid hn0
        replace hr2 := Lib.hid hr2
        replace hY := Lib.hid hY
        clear hcl it iv n5 nv lt1 lt2 a0 a1 b0 b1 e2 e5 hbl hbl' nt ht0 hti htl hts hin hin0 hM2 hbY hM6 kt hb5 hM5 hB5 np
        cases r2
        · have hnx : ∀ i, i < j + 1 → ¬ (n = 0 ∨ fitsN zs vs i) := fun i hi => by
            rcases Nat.lt_succ_iff_lt_or_eq.1 hi with h | rfl
            · exact hQ.out.1 i h
            · rintro (h | h)
              · exact hn0.out h
              · exact absurd (hr2.out.2 h) (by decide)
          replace hnx := Lib.hid hnx
          clear hQ hr2
          rw [← hY.out] at d0 d1
          go_wp2_with (fail)
          rw [hY.out]
          refine heq.out.mono ?_
          rintro e w6 ⟨rfl, hb6⟩
          replace hb6 := Lib.hid (hB6.out.trans (hb6.mono hB6.out.size))
          clear heq hB6
          go_wp2_with (fail)
          exact ⟨⟨j + 1, rfl, by omega, Lib.hid ⟨hnx.out, hb6.out⟩⟩, by simp [intOf]; omega⟩
        · have hrt : r = true := hr.out.2 (.inr ⟨j, hj, hr2.out.1 rfl⟩)
          subst hrt
          clear hr hr2 hQ
          rw [← hY.out] at d0 d1
          go_wp2_with (fail)
          rw [hY.out]
          refine heq.out.mono ?_
          rintro e w6 ⟨rfl, hb6⟩
          go_wp2_with (fail)
          go_returns
          exact ⟨rfl, hB.out.trans ((hB6.out.trans (hb6.mono hB6.out.size)).mono hB.out.size)⟩
    · have j0 : ¬ (j : Int) < 4 := by omega
      have hrf : r = false := by
        cases r
        · rfl
        · rcases hr.out.1 rfl with h | ⟨k, hk, h⟩
          · exact absurd (.inl h) (hQ.out.1 0 (by omega))
          · exact absurd (.inr h) (hQ.out.1 k (by omega))
      subst hrf
      go_wp2_with (fail)
      go_returns
      first | exact ⟨rfl, hB.out.trans (hQ.out.2.mono hB.out.size)⟩ | (rw [← hbx]; exact ⟨rfl, hB.out.trans (hQ.out.2.mono hB.out.size)⟩)
set_option maxRecDepth 100000 in
set_option maxHeartbeats 4000000 in
theorem psame_no (A1 A2 : Option Addr) (xs ys : List Mw) (n m c1 c2 : Nat) (w : World) (hx : xs.length = n) (hy : ys.length = m) (h1 : Mks w A1 xs) (h2 : Mks w A2 ys) (hno : ¬ (n = m ∧ Rg xs ∧ Rg ys)) :
    Calls Tryd.prog 41 #[.slice A1 n c1, .slice A2 m c2] w fun e w' => e = .returned (.bool false) ∧ Below w.heap.size w w' := by
  have hbk := Bk.fresh w 24 #[.slice A2 m c2]
  have hB := (Below.refl w.heap.size w).alloc (Nat.le_refl _) (.cells #[.slice A2 m c2] 24)
  obtain ⟨X, hX⟩ : ∃ X, w.alloc (.cells #[.slice A2 m c2] 24) = X := ⟨_, rfl⟩
  obtain ⟨bx, hbx⟩ : ∃ bx, w.heap.size = bx := ⟨_, rfl⟩
  rw [hX, hbx] at hbk
  rw [hX] at hB
  have c0 := hbk.cell 0
  simp at c0
  obtain ⟨r1, hr1⟩ : ∃ r1 : Bool, r1 = true ↔ Rg xs := by classical exact ⟨decide (Rg xs), decide_eq_true_iff⟩
  obtain ⟨r2, hr2⟩ : ∃ r2 : Bool, r2 = true ↔ Rg ys := by classical exact ⟨decide (Rg ys), decide_eq_true_iff⟩
  have hp1 := Lib.hid (pright_any A1 xs n c1 X hx (h1.kept hB) r1 hr1)
  have hp2 := Lib.hid (fun W (hb : Below X.heap.size X W) => pright_any A2 ys m c2 W hy (h2.kept (hB.trans (hb.mono hB.size))) r2 hr2)
  replace hbk := Lib.hid hbk
  replace hB := Lib.hid hB
  by_cases hnm : n = m
  · have n0 : (n : Int) = (m : Int) := by omega
    have hrr : ¬ (r1 = true ∧ r2 = true) := fun hh => hno ⟨hnm, hr1.1 hh.1, hr2.1 hh.2⟩
    clear hno hr1 hr2 h1 h2 hx hy
    subst hnm
    clear n0
    go_enter Tryd.func41, Tryd.ntmps41
    cases r1
    · go_wp2_with (fail)
      refine hp1.out.mono ?_
      rintro e w3 ⟨rfl, hb3⟩
      go_wp2_with (fail)
      go_returns
      exact ⟨rfl, hB.out.trans (hb3.mono hB.out.size)⟩
    · cases r2
      · clear hrr
        go_wp2_with (fail)
        refine hp1.out.mono ?_
        rintro e w3 ⟨rfl, hb3⟩
        have c3 := (hb3.cell (p := ⟨bx, 0, none⟩) hbk.out.lt).trans c0
        replace hb3 := Lib.hid hb3
        clear hp1
        go_wp2_with (fail)
        refine (hp2.out _ hb3.out).mono ?_
        rintro e w4 ⟨rfl, hb4⟩
        replace hb4 := Lib.hid (hb3.out.trans (hb4.mono hb3.out.size))
        go_wp2_with (fail)
        go_returns
        exact ⟨rfl, hB.out.trans (hb4.out.mono hB.out.size)⟩
      · exact absurd ⟨rfl, rfl⟩ hrr
  · have n0 : ¬ (n : Int) = (m : Int) := by omega
    clear hno hr1 hr2 h1 h2 hx hy hp1 hp2
    go_enter Tryd.func41, Tryd.ntmps41
    go_wp2_with (fail)
    go_returns
    exact ⟨rfl, hB.out⟩
end Go.Proofs.YtndgcndmkfjdgaaDoor
