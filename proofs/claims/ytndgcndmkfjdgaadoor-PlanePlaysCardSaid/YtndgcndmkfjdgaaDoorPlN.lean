import Derived.Test.YtndgcndmkfjdgaaDoorPostMs
namespace Go.Proofs.YtndgcndmkfjdgaaDoor
open Go.RowKit Go.Extern.Stop Go.Stop Go.Extern
set_option linter.unusedVariables false
set_option linter.unusedSimpArgs false
/-! PlaneCloses -/
theorem Raws.kept {W W' : World} {A : Option Addr} {rs : List Mw} (h : Raws W A rs) (hb : Below W.heap.size W W') : Raws W' A rs := fun j hj => by
  obtain ⟨b, off, h1, h2, ⟨h3, h4⟩, ⟨h5, h6⟩, h7⟩ := h j hj
  exact ⟨b, off, h1, Nat.lt_of_lt_of_le h2 hb.size, ⟨(hb.cell (p := ⟨b, off + j * 4, none⟩) h2).trans h3, (hb.cell (p := ⟨b, off + j * 4 + 1, none⟩) h2).trans h4⟩, ⟨(hb.cell (p := ⟨b, off + j * 4 + 2, none⟩) h2).trans h5, (hb.cell (p := ⟨b, off + j * 4 + 3, none⟩) h2).trans h6⟩, h7⟩
theorem refs_dr {rs : List Mw} {zs : List Mk} {r : Bool} (h : Refs rs zs r) (hr : r = true) (hZ : rightZ zs) : Dr rs zs := by
  obtain ⟨h1, h2, h3, h4⟩ := h
  refine ⟨h1, by rw [← h1]; exact hZ.1, fun i hi => ⟨(h4 hr).2 i hi, ?_⟩⟩
  have := h2 i (by omega)
  exact ⟨this.1, this.2, hZ.2 i (by omega)⟩
theorem dr_refs {rs : List Mw} {zs zs' : List Mk} {r : Bool} (h : Refs rs zs r) (hD : Dr rs zs') : r = true ∧ zs' = zs := by
  obtain ⟨h1, h2, h3, h4⟩ := h
  have hr : r = true := h3.2 (fun x hx => by
    obtain ⟨i, hi, rfl⟩ := List.getElem_of_mem hx
    obtain ⟨g1, g2⟩ := hD.2.2 i hi
    exact ⟨(nm_rt g1.1).2 g2.1, (nm_rt g1.2).2 g2.2.1⟩)
  refine ⟨hr, ?_⟩
  have hl : zs'.length = zs.length := hD.1.trans h1.symm
  refine List.ext_getElem hl fun i hi hi' => ?_
  have a := (hD.2.2 i (by omega)).1
  have b := (h4 hr).2 i (by omega)
  have e1 : zs'.getD i m0 = zs'[i] := by rw [List.getD_eq_getElem?_getD, List.getElem?_eq_getElem hi]; rfl
  have e2 : zs.getD i m0 = zs[i] := by rw [List.getD_eq_getElem?_getD, List.getElem?_eq_getElem hi']; rfl
  rw [e1] at a
  rw [e2] at b
  have p1 := wd_uniq a.1.1 b.1.1
  have p2 := wd_uniq a.1.2 b.1.2
  have p3 := wd_uniq a.2.1 b.2.1
  have p4 := wd_uniq a.2.2 b.2.2
  exact Prod.ext (Prod.ext p1 p2) (Prod.ext p3 p4)
theorem pclosed_not (A : Option Addr) (xs : List Mw) (n c : Nat) (w : World) (hm : xs.length = n) (h : Mks w A xs) (hno : ∀ zs, Dr xs zs → ¬ closedZ zs) : Calls Tryd.prog 15 #[.slice A n c] w fun e w' => e = .returned (.bool false) ∧ Below w.heap.size w w' := by
  by_cases hR : Rg xs
  · obtain ⟨zs, hD⟩ := rg_dr.1 hR
    exact pclosed_ok A xs zs n c w hm h hD false ⟨fun h => absurd h (by decide), fun h => absurd h (hno zs hD)⟩
  · exact pclosed_bad A xs n c w hm h hR
set_option maxRecDepth 100000 in
set_option maxHeartbeats 4000000 in
theorem walk_closes (A : Option Addr) (n c : Nat) (w : World) (hM : True) (h : MsA w A n) : Calls Tryd.prog 3 #[.slice A n c] w fun e w' => e = .returned (.bool true) ∧ Below w.heap.size w w' := by
  have hn := h.1
  obtain ⟨rs, hl, hraw⟩ := h.raws
  have hsh := Lib.hid (shown_any w)
  replace hraw := Lib.hid hraw
  replace hn := Lib.hid hn
  replace hl := Lib.hid hl
  clear h hM
  go_enter Tryd.func3, Tryd.ntmps3
  go_wp2_with (fail)
  refine hsh.out.mono ?_
  rintro e w1 ⟨rfl, hB⟩
  have hmk := Lib.hid (marks_any A rs n c w1 hl.out hn.out (hraw.out.kept hB))
  replace hB := Lib.hid hB
  clear hsh hraw
  go_wp2_with (fail)
  refine hmk.out.mono ?_
  rintro e w2 ⟨A1, A2, c1, c2, zs, r, rfl, hM1, hR1, hRf, hb2⟩
  have hzl : zs.length = n := hRf.1.trans hl.out
  have hS := hRf.2.1
  have hB2 := Lib.hid (hB.out.trans (hb2.mono hB.out.size))
  clear hmk hB hb2
  by_cases hC : r = true ∧ rightZ zs ∧ closedZ zs
  · obtain ⟨rfl, hZ, hcz⟩ := hC
    have hD := refs_dr hRf rfl hZ
    have hn4 : n ≤ 4096 := by rw [← hzl]; exact hZ.1
    have hc1 := Lib.hid (rclosed_any A2 zs n c2 w2 hzl hR1 hS true ⟨fun _ => ⟨hZ, hcz⟩, fun _ => rfl⟩)
    have hc2 := Lib.hid (fun W (hb : Below w2.heap.size w2 W) => parea_ok A1 rs zs n c1 W hl.out (hM1.kept hb) hD hcz)
    have hc3 := Lib.hid (fun W (hb : Below w2.heap.size w2 W) => pclosed_ok A1 rs zs n c1 W hl.out (hM1.kept hb) hD true ⟨fun _ => hcz, fun _ => rfl⟩)
    have hc4 := Lib.hid (fun W (hb : Below w2.heap.size w2 W) => rarea_any A2 zs n c2 W hzl hn4 (hR1.kept hb) hS)
    obtain ⟨ar, har⟩ : ∃ z, areaZ zs = z := ⟨_, rfl⟩
    rw [har] at hc2 hc4
    clear har hD hS hM1 hR1 hRf hZ hcz hzl hn4
    go_wp2_with (fail)
    refine hc1.out.mono ?_
    rintro e w3 ⟨rfl, hb3⟩
    have hW : Hid (Below w2.heap.size w2 w3) := Lib.hid hb3
    clear hc1 hb3
    go_wp2_with (fail)
    refine (hc2.out _ hW.out).mono ?_
    rintro e w4 ⟨rfl, hb4⟩
    replace hW := Lib.hid (hW.out.trans (hb4.mono hW.out.size))
    clear hc2 hb4
    go_wp2_with (fail)
    refine (hc3.out _ hW.out).mono ?_
    rintro e w5 ⟨rfl, hb5⟩
    replace hW := Lib.hid (hW.out.trans (hb5.mono hW.out.size))
    clear hc3 hb5
    go_wp2_with (fail)
    refine (hc4.out _ hW.out).mono ?_
    rintro e w6 ⟨rfl, hb6⟩
    replace hW := Lib.hid (hW.out.trans (hb6.mono hW.out.size))
    clear hc4 hb6
    go_wp2_with (fail)
    go_returns
    exact ⟨rfl, hB2.out.trans (hW.out.mono hB2.out.size)⟩
  · have hno : ∀ zs', Dr rs zs' → ¬ closedZ zs' := fun zs' hD hcz => by
      obtain ⟨e1, e2⟩ := dr_refs hRf hD
      subst e2
      exact hC ⟨e1, ⟨by rw [hD.1]; exact hD.2.1, fun j hj => (hD.2.2 j (by rw [← hD.1]; exact hj)).2.2.2⟩, hcz⟩
    have hc2 := Lib.hid (fun W (hb : Below w2.heap.size w2 W) => parea_bad A1 rs n c1 W hl.out (hM1.kept hb) hno)
    have hc3 := Lib.hid (fun W (hb : Below w2.heap.size w2 W) => pclosed_not A1 rs n c1 W hl.out (hM1.kept hb) hno)
    cases r
    · clear hno hS hM1 hR1 hRf hzl hC
      have hW : Hid (Below w2.heap.size w2 w2) := Lib.hid (Below.refl _ _)
      go_wp2_with (fail)
      refine (hc2.out _ hW.out).mono ?_
      rintro e w4 ⟨rfl, hb4⟩
      replace hW := Lib.hid (hW.out.trans (hb4.mono hW.out.size))
      clear hc2 hb4
      go_wp2_with (fail)
      refine (hc3.out _ hW.out).mono ?_
      rintro e w5 ⟨rfl, hb5⟩
      replace hW := Lib.hid (hW.out.trans (hb5.mono hW.out.size))
      clear hc3 hb5
      go_wp2_with (fail)
      go_returns
      exact ⟨rfl, hB2.out.trans (hW.out.mono hB2.out.size)⟩
    · have hc1 := Lib.hid (rclosed_any A2 zs n c2 w2 hzl hR1 hS false ⟨fun h => absurd h (by decide), fun h => absurd ⟨rfl, h⟩ hC⟩)
      clear hno hS hM1 hR1 hRf hzl hC
      go_wp2_with (fail)
      refine hc1.out.mono ?_
      rintro e w3 ⟨rfl, hb3⟩
      have hW : Hid (Below w2.heap.size w2 w3) := Lib.hid hb3
      clear hc1 hb3
      go_wp2_with (fail)
      refine (hc2.out _ hW.out).mono ?_
      rintro e w4 ⟨rfl, hb4⟩
      replace hW := Lib.hid (hW.out.trans (hb4.mono hW.out.size))
      clear hc2 hb4
      go_wp2_with (fail)
      refine (hc3.out _ hW.out).mono ?_
      rintro e w5 ⟨rfl, hb5⟩
      replace hW := Lib.hid (hW.out.trans (hb5.mono hW.out.size))
      clear hc3 hb5
      go_wp2_with (fail)
      go_returns
      exact ⟨rfl, hB2.out.trans (hW.out.mono hB2.out.size)⟩
end Go.Proofs.YtndgcndmkfjdgaaDoor
