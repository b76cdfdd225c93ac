import Derived.Test.YtndgcndmkfjdgaaDoorPlQ
namespace Go.Proofs.YtndgcndmkfjdgaaDoor
open Go.RowKit Go.Extern.Stop Go.Stop Go.Extern
set_option linter.unusedVariables false
set_option linter.unusedSimpArgs false
/-! the document's Moved -/
theorem rwithin_b (a : Pt) (r : Bool) (hr : r = true ↔ Sm a 16777216) (w : World) : Calls Tryd.prog 44 #[.agg #[.int .i64 a.1, .int .i64 a.2]] w fun e w' => e = .returned (.bool r) ∧ Below w.heap.size w w' := by
  have := rwithin_any a w
  have e : decide (a.1.natAbs ≤ 16777216 ∧ a.2.natAbs ≤ 16777216) = r := by
    by_cases h : a.1.natAbs ≤ 16777216 ∧ a.2.natAbs ≤ 16777216
    · rw [decide_eq_true h]; exact (hr.2 (by unfold Sm; omega)).symm
    · rw [decide_eq_false h]
      cases r
      · rfl
      · have := hr.1 rfl; unfold Sm at this; omega
  rw [e] at this
  exact this
def Rmoved (zs : List Mk) (g : Pt → Pt) (n : Nat) (w : World) (e : Ending) (w' : World) : Prop :=
  if ∀ i, i < n → inR (both g (zs.getD i m0)) then ∃ A' c', e = .returned (.tuple #[.slice A' n c', .bool true]) ∧ Rks w' A' (zs.map (both g)) ∧ Below w.heap.size w w'
  else e = .returned (.tuple #[.slice none 0 0, .bool false]) ∧ Below w.heap.size w w'
set_option maxRecDepth 100000 in
set_option maxHeartbeats 4000000 in
theorem rmoved_any (A : Option Addr) (zs : List Mk) (n c : Nat) (d : Pt) (w : World) (hm : zs.length = n) (hn : n ≤ 4096) (h : Rks w A zs) (hI : ∀ m ∈ zs, inR m) (hd : Sm d 16777216) :
    Calls Tryd.prog 39 #[.slice A n c, zV d] w fun e w' => Hid (Rmoved zs (fun z => (z.1 + d.1, z.2 + d.2)) n w e w') := by
  have hn4 : (n : Int) ≤ 4096 := by omega
  obtain ⟨Q, hQ⟩ : ∃ Q : Ending → World → Prop, Q = Rmoved zs (fun z => (z.1 + d.1, z.2 + d.2)) n w := ⟨_, rfl⟩
  rw [← hQ]
  have hbad : ∀ (j : Nat) (w' : World), j < n → ¬ inR (both (fun z => (z.1 + d.1, z.2 + d.2)) (zs.getD j m0)) → Below w.heap.size w w' → Q (.returned (.tuple #[.slice none 0 0, .bool false])) w' := fun j w' hj hno hb => by
    rw [hQ]
    unfold Rmoved
    rw [if_neg (fun hall => hno (hall j hj))]
    first | exact ⟨rfl, hb⟩ | exact ⟨trivial, hb⟩
  have hgood : ∀ (A' : Option Addr) (c' : Nat) (w' : World), (∀ i, i < n → inR (both (fun z => (z.1 + d.1, z.2 + d.2)) (zs.getD i m0))) → Rks w' A' (zs.map (both (fun z => (z.1 + d.1, z.2 + d.2)))) → Below w.heap.size w w' → Q (.returned (.tuple #[.slice A' n c', .bool true])) w' := fun A' c' w' hall hrow hb => by
    rw [hQ]
    unfold Rmoved
    rw [if_pos hall]
    exact ⟨A', c', rfl, hrow, hb⟩
  have hbk := Bk.fresh w 58 #[.int .i64 d.1, .int .i64 d.2]
  have hB0 := (Below.refl w.heap.size w).alloc (Nat.le_refl _) (.cells #[.int .i64 d.1, .int .i64 d.2] 58)
  have hX : ∃ X, w.alloc (.cells #[.int .i64 d.1, .int .i64 d.2] 58) = X := ⟨_, rfl⟩
  have hbx : ∃ bx, w.heap.size = bx := ⟨_, rfl⟩
  replace hbad := Lib.hid hbad
  replace hgood := Lib.hid hgood
  replace h := Lib.hid h
  replace hI := Lib.hid hI
  replace hm := Lib.hid hm
  replace hd := Lib.hid hd
  replace hbk := Lib.hid hbk
  replace hB0 := Lib.hid hB0
  clear hQ
  obtain ⟨d1, d2⟩ := d
  unfold zV
  go_enter Tryd.func39, Tryd.ntmps39
  go_wp2_with (fail)
  obtain ⟨X, hX⟩ := hX
  obtain ⟨bx, hbx⟩ := hbx
  have hbk2 : Bk X bx 58 #[.int .i64 d1, .int .i64 d2] := by rw [← hX, ← hbx]; exact hbk.out
  have hB2 : Below w.heap.size w X := by rw [← hX]; exact hB0.out
  rw [hX, hbx]
  replace hbk2 := Lib.hid hbk2
  replace hB2 := Lib.hid hB2
  clear hbk hB0 hX hbx
  go_loopw [6, 7] (fun s x wr => ∃ (j : Nat) (A' : Option Addr) (c' : Nat), s = .slice A' j c' ∧ x = .int .i64 j ∧ j ≤ n ∧ Hid (wr.ownsRow X.heap.size 85 4 (.slice A' j c') j (rksC ((zs.take j).map (both (fun z => (z.1 + d1, z.2 + d2))))) ∧ (∀ i, i < j → inR (both (fun z => (z.1 + d1, z.2 + d2)) (zs.getD i m0))) ∧ Below X.heap.size X wr)) (fun _ x _ => n - (intOf x).toNat)
  case atStart => exact ⟨0, none, 0, rfl, rfl, Nat.zero_le _, Lib.hid ⟨World.ownsRow_nil _ _ _ _, fun i hi => absurd hi (Nat.not_lt_zero _), Below.refl _ _⟩⟩
  case round =>
    obtain ⟨j, A', c', rfl, rfl, hj0, hR⟩ := hrel
    obtain ⟨hrow, hall, hW⟩ := hR.out
    clear hR
    by_cases hj : j < n
    · have j0 : (j : Int) < (n : Int) := by omega
      have hjl : j < zs.length := by rw [hm.out]; exact hj
      obtain ⟨b, off, rfl, hbl, hcc⟩ := h.out j hjl
      have hbX : b < X.heap.size := Nat.lt_of_lt_of_le hbl hB2.out.size
      have hcc := rks_cells hB2.out hbl hcc
      have hnx := map_take_next (fun z => (z.1 + d1, z.2 + d2)) hjl
      have hg : zs.getD j m0 = zs[j] := by rw [List.getD_eq_getElem?_getD, List.getElem?_eq_getElem hjl]; rfl
      have hin := hI.out zs[j] (List.getElem_mem hjl)
      rw [← hg] at hin
      have hbd := hbad.out j
      obtain ⟨m, hx⟩ : ∃ p, zs.getD j m0 = p := ⟨_, rfl⟩
      rw [hx] at hcc hnx hin hbd
      have x0 : X.cell? ⟨bx, 0, none⟩ = some (.int .i64 d1) := hbk2.out.cell 0
      have x1 : X.cell? ⟨bx, 1, none⟩ = some (.int .i64 d2) := hbk2.out.cell 1
      have hcell := Lib.hid (fun W (hb : Below X.heap.size X W) => And.intro (rks_cells hb hbX hcc) (And.intro ((hb.cell (p := ⟨bx, 0, none⟩) hbk2.out.lt).trans x0) ((hb.cell (p := ⟨bx, 1, none⟩) hbk2.out.lt).trans x1)))
      clear x0 x1
      obtain ⟨⟨a1, a2⟩, b1, b2⟩ := m
      have ha1 := Lib.hid (fun W => radd_any (a1, a2) (d1, d2) (sm_mono hin.1 (by decide)) (sm_mono hd.out (by decide)) W)
      have ha2 := Lib.hid (fun W => radd_any (b1, b2) (d1, d2) (sm_mono hin.2 (by decide)) (sm_mono hd.out (by decide)) W)
      unfold zV at ha1 ha2
      obtain ⟨p1, hp1⟩ : ∃ p, a1 + d1 = p := ⟨_, rfl⟩
      obtain ⟨p2, hp2⟩ : ∃ p, a2 + d2 = p := ⟨_, rfl⟩
      obtain ⟨q1, hq1⟩ : ∃ p, b1 + d1 = p := ⟨_, rfl⟩
      obtain ⟨q2, hq2⟩ : ∃ p, b2 + d2 = p := ⟨_, rfl⟩
      have e3 : both (fun z => (z.1 + d1, z.2 + d2)) ((a1, a2), b1, b2) = ((p1, p2), q1, q2) := by rw [← hp1, ← hp2, ← hq1, ← hq2]; rfl
      rw [e3] at hnx hbd
      simp only [hp1, hp2, hq1, hq2] at ha1 ha2
      simp only at hcell
      obtain ⟨r1, hr1⟩ : ∃ r : Bool, r = true ↔ Sm (p1, p2) 16777216 := ⟨decide (Sm (p1, p2) 16777216), by simp⟩
      obtain ⟨r2, hr2⟩ : ∃ r : Bool, r = true ↔ Sm (q1, q2) 16777216 := ⟨decide (Sm (q1, q2) 16777216), by simp⟩
      have hw1 := Lib.hid (fun W => rwithin_b (p1, p2) r1 hr1 W)
      have hw2 := Lib.hid (fun W => rwithin_b (q1, q2) r2 hr2 W)
      simp only at hw1 hw2
      have hx3 : both (fun z => (z.1 + d1, z.2 + d2)) (zs.getD j m0) = ((p1, p2), q1, q2) := by rw [hx]; exact e3
      replace hx3 := Lib.hid hx3
      replace hnx := Lib.hid hnx
      replace hbd := Lib.hid hbd
      replace hr1 := Lib.hid hr1
      replace hr2 := Lib.hid hr2
      replace hrow := Lib.hid hrow
      replace hall := Lib.hid hall
      replace hW := Lib.hid hW
      clear hcc hin hg hx e3 hp1 hp2 hq1 hq2
      go_upto_region 5 with (fail)
      have hal := below_drew (hW.out.alloc hW.out.size (.cells #[.int .i64 0, .int .i64 0] 58))
      obtain ⟨⟨⟨m0, m1⟩, m2, m3⟩, m4, m5⟩ := hcell.out _ hal
      obtain ⟨⟨⟨d0', d1'⟩, d2', d3'⟩, d4', d5'⟩ := hcell.out _ (below_drew hW.out)
      clear hal
      go_cut [8] from 12 to 47 (fun s8 wx => ∃ (F : Nat), s8 = .pointer (some ⟨F, 0, none⟩) ∧ Hid (Bk wx F 58 #[.int .i64 p1, .int .i64 p2] ∧ Below wr.heap.size wr wx))
      case first =>
        go_region_with ((go_at_call 59; (with_reducible refine Calls.mono (ha1.out _) ?_); rintro e w1_ ⟨rfl, hb1⟩; (first | (have bk := Bk.kept (Bk.fresh wr.drew 58 #[.int .i64 0, .int .i64 0]) hb1 (by simp); have l0 := bk.cell 0; have l1 := bk.cell 1; have f0 := bk.free 0; have f1 := bk.free 1; simp at l0 l1 f0 f1; clear bk) | skip); replace hb1 := Lib.hid hb1))
        all_goals
          go_wp2_with (fail)
          go_meet
          first
            | exact ⟨_, rfl, Lib.hid (of_after hb1.out)⟩
            | exact ⟨_, rfl, Lib.hid (of_ahead hb1.out)⟩
      case' rest =>
        clear m0 m1 m2 m3 m4 m5 d0' d1' d2' d3' d4' d5'
      obtain ⟨F1, rfl, hR1⟩ := hcut
      obtain ⟨hk1, hb1⟩ := hR1.out
      obtain ⟨w3, hw3⟩ : ∃ w3, w3 = wc := ⟨_, rfl⟩
      subst hw3
      replace hrow := Lib.hid (own_below hrow.out hb1 (Nat.le_refl _))
      replace hW := Lib.hid (hW.out.trans (hb1.mono hW.out.size))
      replace hk1 := Lib.hid hk1
      clear hR1 hb1 ha1
      go_upto_region 6 with (fail)
      have hal := below_drew (hW.out.alloc hW.out.size (.cells #[.int .i64 0, .int .i64 0] 58))
      obtain ⟨⟨⟨m0, m1⟩, m2, m3⟩, m4, m5⟩ := hcell.out _ hal
      obtain ⟨⟨⟨d0', d1'⟩, d2', d3'⟩, d4', d5'⟩ := hcell.out _ (below_drew hW.out)
      clear hal
      go_cut [9] from 12 to 47 (fun s8 wx => ∃ (F : Nat), s8 = .pointer (some ⟨F, 0, none⟩) ∧ Hid (Bk wx F 58 #[.int .i64 q1, .int .i64 q2] ∧ Below w3.heap.size w3 wx))
      case first =>
        go_region_with ((go_at_call 59; (with_reducible refine Calls.mono (ha2.out _) ?_); rintro e w1_ ⟨rfl, hb1⟩; (first | (have bk := Bk.kept (Bk.fresh w3.drew 58 #[.int .i64 0, .int .i64 0]) hb1 (by simp); have l0 := bk.cell 0; have l1 := bk.cell 1; have f0 := bk.free 0; have f1 := bk.free 1; simp at l0 l1 f0 f1; clear bk) | skip); replace hb1 := Lib.hid hb1))
        all_goals
          go_wp2_with (fail)
          go_meet
          first
            | exact ⟨_, rfl, Lib.hid (of_after hb1.out)⟩
            | exact ⟨_, rfl, Lib.hid (of_ahead hb1.out)⟩
      case' rest =>
        clear m0 m1 m2 m3 m4 m5 d0' d1' d2' d3' d4' d5'
      obtain ⟨F2, rfl, hR2⟩ := hcut
      obtain ⟨hk2, hb2⟩ := hR2.out
      obtain ⟨w4, hw4⟩ : ∃ w4, w4 = wc := ⟨_, rfl⟩
      subst hw4
      replace hrow := Lib.hid (own_below hrow.out hb2 (Nat.le_refl _))
      replace hW := Lib.hid (hW.out.trans (hb2.mono hW.out.size))
      replace hk1 := Lib.hid (hk1.out.kept hb2 hk1.out.lt)
      replace hk2 := Lib.hid hk2
      clear hR2 hb2 ha2 hcell
      have e0 := hk1.out.cell 0
      have e1 := hk1.out.cell 1
      simp at e0 e1
      go_wp2_with (fail)
      refine (hw1.out _).mono ?_
      rintro e w5 ⟨rfl, hb5⟩
      clear e0 e1
      replace hrow := Lib.hid (own_below hrow.out hb5 (Nat.le_refl _))
      replace hW := Lib.hid (hW.out.trans (hb5.mono hW.out.size))
      replace hk1 := Lib.hid (hk1.out.kept hb5 hk1.out.lt)
      replace hk2 := Lib.hid (hk2.out.kept hb5 hk2.out.lt)
      have e2 := hk2.out.cell 0
      have e3 := hk2.out.cell 1
      simp at e2 e3
      clear hb5 hw1
      go_wp2_with (fail)
      refine (hw2.out _).mono ?_
      rintro e w6 ⟨rfl, hb6⟩
      clear e2 e3
      replace hrow := Lib.hid (own_below hrow.out hb6 (Nat.le_refl _))
      replace hW := Lib.hid (hW.out.trans (hb6.mono hW.out.size))
      replace hk1 := Lib.hid (hk1.out.kept hb6 hk1.out.lt)
      replace hk2 := Lib.hid (hk2.out.kept hb6 hk2.out.lt)
      clear hb6 hw2
      cases r1
      · have hf := Lib.hid (hbd.out w6 hj (fun hh => by have := hr1.out.2 hh.1; cases this) (hB2.out.trans (hW.out.mono hB2.out.size)))
        clear hbd hrow hnx
        go_wp2_with (fail)
        go_returns
        exact hf
      · cases r2
        · have hf := Lib.hid (hbd.out w6 hj (fun hh => by have := hr2.out.2 hh.2; cases this) (hB2.out.trans (hW.out.mono hB2.out.size)))
          clear hbd hrow hnx
          go_wp2_with (fail)
          go_returns
          exact hf
        · obtain ⟨A5, c6, w7, hrun, hown, hgr⟩ := rk_append (w := w6) (V := .slice A' j c') ((p1, p2), q1, q2) hrow.out hW.out.size (by omega)
          have hB7 := below_grown2 hW.out hgr hW.out.size (own_ge hrow.out)
          have e0 := hk1.out.cell 0
          have e1 := hk1.out.cell 1
          have e2 := hk2.out.cell 0
          have e3 := hk2.out.cell 1
          simp at e0 e1 e2 e3
          rw [← hnx.out] at hown
          simp only at hrun
          replace hrun := Lib.hid hrun
          replace hown := Lib.hid hown
          replace hB7 := Lib.hid hB7
          clear hbd hrow hgr hk1 hk2 hnx
          go_wp2_with (refine wpList_append_run rfl _ _ 25 rfl _ _ _ rfl rfl hrun.out ?_)
          refine ⟨⟨j + 1, A5, c6, rfl, rfl, by omega, Lib.hid ⟨hown.out, fun i hi => ?_, hB7.out⟩⟩, by simp [intOf]; omega⟩
          rcases (by omega : i < j ∨ i = j) with h3 | rfl
          · exact hall.out i h3
          · rw [hx3.out]; exact ⟨hr1.out.1 (by first | rfl | trivial), hr2.out.1 (by first | rfl | trivial)⟩
    · have j0 : ¬ (j : Int) < (n : Int) := by omega
      obtain rfl : j = n := by omega
      rw [List.take_of_length_le (by rw [hm.out]; exact Nat.le_refl _)] at hrow
      have hf := Lib.hid (hgood.out A' c' wr hall (own_rks hrow).2 (hB2.out.trans (hW.mono hB2.out.size)))
      clear hrow hW
      go_wp2_with (fail)
      go_returns
      exact hf
end Go.Proofs.YtndgcndmkfjdgaaDoor
