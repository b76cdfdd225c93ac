import Derived.Test.YtndgcndmkfjdgaaDoorPlP
namespace Go.Proofs.YtndgcndmkfjdgaaDoor
open Go.RowKit Go.Extern.Stop Go.Stop Go.Extern
set_option linter.unusedVariables false
set_option linter.unusedSimpArgs false
/-! the document's Turned -/
theorem rks_cells {w W : World} {b off j : Nat} {m : Mk} (hb : Below w.heap.size w W) (hbl : b < w.heap.size) (h : (w.cell? ⟨b, off + j * 4, none⟩ = some (.int .i64 m.1.1) ∧ w.cell? ⟨b, off + j * 4 + 1, none⟩ = some (.int .i64 m.1.2)) ∧ w.cell? ⟨b, off + j * 4 + 2, none⟩ = some (.int .i64 m.2.1) ∧ w.cell? ⟨b, off + j * 4 + 3, none⟩ = some (.int .i64 m.2.2)) :
    (W.cell? ⟨b, off + j * 4, none⟩ = some (.int .i64 m.1.1) ∧ W.cell? ⟨b, off + j * 4 + 1, none⟩ = some (.int .i64 m.1.2)) ∧ W.cell? ⟨b, off + j * 4 + 2, none⟩ = some (.int .i64 m.2.1) ∧ W.cell? ⟨b, off + j * 4 + 3, none⟩ = some (.int .i64 m.2.2) :=
  ⟨⟨(hb.cell (p := ⟨b, off + j * 4, none⟩) hbl).trans h.1.1, (hb.cell (p := ⟨b, off + j * 4 + 1, none⟩) hbl).trans h.1.2⟩, (hb.cell (p := ⟨b, off + j * 4 + 2, none⟩) hbl).trans h.2.1, (hb.cell (p := ⟨b, off + j * 4 + 3, none⟩) hbl).trans h.2.2⟩
set_option maxRecDepth 100000 in
set_option maxHeartbeats 4000000 in
theorem rturned_any (A : Option Addr) (zs : List Mk) (n c : Nat) (k : Int) (w : World) (hm : zs.length = n) (hn : n ≤ 4096) (h : Rks w A zs) (hI : ∀ m ∈ zs, inR m) :
    Calls Tryd.prog 38 #[.slice A n c, .int .i64 k] w fun e w' => ∃ A' c', e = .returned (.slice A' n c') ∧ Rks w' A' (zs.map (both (fun z => turnZ z k))) ∧ Below w.heap.size w w' := by
  have hn4 : (n : Int) ≤ 4096 := by omega
  replace h := Lib.hid h
  replace hI := Lib.hid hI
  replace hm := Lib.hid hm
  have key : ∃ Q : Ending → World → Prop, Q = (fun e w' => ∃ A' c', e = .returned (.slice A' n c') ∧ Rks w' A' (zs.map (both (fun z => turnZ z k))) ∧ Below w.heap.size w w') := ⟨_, rfl⟩
  obtain ⟨Q, hQ⟩ := key
  rw [← hQ]
  have hfin : ∀ A' c' w', Rks w' A' (zs.map (both (fun z => turnZ z k))) → Below w.heap.size w w' → Q (.returned (.slice A' n c')) w' := fun A' c' w' a b => by rw [hQ]; exact ⟨A', c', rfl, a, b⟩
  replace hfin := Lib.hid hfin
  clear hQ
  suffices hsuf : Calls Tryd.prog 38 #[.slice A n c, .int .i64 k] w fun e w' => Hid (Q e w') from hsuf.mono fun e w' h => h.out
  go_enter Tryd.func38, Tryd.ntmps38
  go_wp2_with (fail)
  go_loopw [5, 6] (fun s x wr => ∃ (j : Nat) (A' : Option Addr) (c' : Nat), s = .slice A' j c' ∧ x = .int .i64 j ∧ j ≤ n ∧ Hid (wr.ownsRow w.heap.size 85 4 (.slice A' j c') j (rksC ((zs.take j).map (both (fun z => turnZ z k)))) ∧ Below w.heap.size w wr)) (fun _ x _ => n - (intOf x).toNat)
  case atStart => exact ⟨0, none, 0, rfl, rfl, Nat.zero_le _, Lib.hid ⟨World.ownsRow_nil _ _ _ _, Below.refl _ _⟩⟩
  case round =>
    obtain ⟨j, A', c', rfl, rfl, hj0, hR⟩ := hrel
    obtain ⟨hrow, hW⟩ := hR.out
    clear hR
    by_cases hj : j < n
    · have j0 : (j : Int) < (n : Int) := by omega
      have hjl : j < zs.length := by rw [hm.out]; exact hj
      obtain ⟨b, off, rfl, hbl, hcc⟩ := h.out j hjl
      have hnx := map_take_next (fun z => turnZ z k) hjl
      have hg : zs.getD j m0 = zs[j] := by rw [List.getD_eq_getElem?_getD, List.getElem?_eq_getElem hjl]; rfl
      have hin := hI.out zs[j] (List.getElem_mem hjl)
      rw [← hg] at hin
      obtain ⟨m, hx⟩ : ∃ p, zs.getD j m0 = p := ⟨_, rfl⟩
      rw [hx] at hcc hnx hin
      have hcell := Lib.hid (fun W (hb : Below w.heap.size w W) => rks_cells hb hbl hcc)
      obtain ⟨⟨a1, a2⟩, b1, b2⟩ := m
      have ht1 := Lib.hid (fun W => rturn_any (a1, a2) (sm_mono hin.1 (by decide)) k W)
      have ht2 := Lib.hid (fun W => rturn_any (b1, b2) (sm_mono hin.2 (by decide)) k W)
      unfold zV at ht1 ht2
      have e1 : (both (fun z => turnZ z k) ((a1, a2), b1, b2)).1 = turnZ (a1, a2) k := rfl
      have e2 : (both (fun z => turnZ z k) ((a1, a2), b1, b2)).2 = turnZ (b1, b2) k := rfl
      obtain ⟨⟨p1, p2⟩, hp⟩ : ∃ p, turnZ (a1, a2) k = p := ⟨_, rfl⟩
      obtain ⟨⟨q1, q2⟩, hq⟩ : ∃ p, turnZ (b1, b2) k = p := ⟨_, rfl⟩
      rw [hp] at ht1 e1
      rw [hq] at ht2 e2
      have e3 : both (fun z => turnZ z k) ((a1, a2), b1, b2) = ((p1, p2), q1, q2) := Prod.ext e1 e2
      rw [e3] at hnx
      simp only at ht1 ht2
      obtain ⟨⟨k0, k1⟩, k2, k3⟩ := hcell.out wr hW
      simp only at k0 k1 k2 k3
      have happ := Lib.hid (fun (W : World) (hb : W.ownsRow w.heap.size 85 4 (.slice A' j c') j (rksC ((zs.take j).map (both (fun z => turnZ z k)))) ∧ Below w.heap.size w W) => rk_append (w := W) (V := .slice A' j c') ((p1, p2), q1, q2) hb.1 hb.2.size (by omega))
      replace hnx := Lib.hid hnx
      have hZ := Lib.hid (And.intro hrow hW)
      clear hrow hW hcc hin hg hx e1 e2 e3 hp hq
      have n0 := World.new_ne wr _ k0
      go_upto_region 5 with (fail)
      go_region_held3 (fun w' => (w'.cell? ⟨b, off + j * 4, none⟩ = some (.int .i64 a1) ∧ w'.cell? ⟨b, off + j * 4 + 1, none⟩ = some (.int .i64 a2)) ∧ w'.cell? ⟨b, off + j * 4 + 2, none⟩ = some (.int .i64 b1) ∧ w'.cell? ⟨b, off + j * 4 + 3, none⟩ = some (.int .i64 b2)) (first | (simp [go_sem, *]; done) | go_keep)
        (first
          | (go_at_call 29; (first | (with_reducible refine Calls.mono (ht1.out _) ?_) | (with_reducible refine Calls.mono (ht2.out _) ?_)); rintro e w1_ ⟨rfl, hb1⟩; replace hZ := Lib.hid (And.intro (own_below (by first | exact hZ.out.1 | exact own_draws hZ.out.1 1) hb1 (Nat.le_refl _)) (Below.trans (by first | exact hZ.out.2 | exact below_drew hZ.out.2) (hb1.mono (by first | exact hZ.out.2.size | exact (below_drew hZ.out.2).size)))); have kS := hcell.out w1_ hZ.out.2; have n1 := World.new_ne w1_ _ kS.1.1)
          | (obtain ⟨A2, c2, w5, hrun, hown, hgr⟩ := happ.out _ (by first | exact hZ.out | exact And.intro (own_draws hZ.out.1 1) (below_drew hZ.out.2)); refine step_append_run rfl (.tmp 13) (.tmp 29) 25 rfl (.slice A' j c') _ _ rfl rfl hrun ?_; have hB5 := below_grown2 hZ.out.2 hgr hZ.out.2.size (own_ge hZ.out.1); have kS := hcell.out w5 hB5; replace hown := Lib.hid hown; replace hB5 := Lib.hid hB5; clear hrun hgr))
      all_goals
        go_wp2_with (fail)
        exact ⟨⟨j + 1, A2, c2, rfl, rfl, by omega, Lib.hid ⟨by rw [hnx.out]; exact hown.out, hB5.out⟩⟩, by simp [intOf]; omega⟩
    · have j0 : ¬ (j : Int) < (n : Int) := by omega
      obtain rfl : j = n := by omega
      rw [List.take_of_length_le (by rw [hm.out]; exact Nat.le_refl _)] at hrow
      have hf := Lib.hid (hfin.out A' c' wr (own_rks hrow).2 hW)
      clear hrow hW
      go_wp2_with (fail)
      go_returns
      exact hf
end Go.Proofs.YtndgcndmkfjdgaaDoor
