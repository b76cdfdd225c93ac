import Derived.Test.YtndgcndmkfjdgaaDoorPlY
namespace Go.Proofs.YtndgcndmkfjdgaaDoor
open Go.RowKit Go.Extern.Stop Go.Stop Go.Extern
set_option linter.unusedVariables false
set_option linter.unusedSimpArgs false
/-! PlaneSame -/
theorem refs_rg {rs : List Mw} {zs : List Mk} {r : Bool} (h : Refs rs zs r) : Rg rs ↔ r = true ∧ rightZ zs := by
  constructor
  · intro hR
    obtain ⟨zs', hD⟩ := rg_dr.1 hR
    obtain ⟨e1, e2⟩ := dr_refs h hD
    subst e2
    exact ⟨e1, by rw [hD.1]; exact hD.2.1, fun j hj => (hD.2.2 j (by rw [← hD.1]; exact hj)).2.2.2⟩
  · rintro ⟨h1, h2⟩
    exact (refs_dr h h1 h2).rg
theorem same_iff {zs vs : List Mk} {n : Nat} (hz : zs.length = n) : sameZ zs vs ↔ rightZ zs ∧ rightZ vs ∧ n = vs.length ∧ (n = 0 ∨ ∃ k : Nat, k < 4 ∧ fitsN zs vs k) := by
  unfold sameZ
  rw [hz]
  constructor
  · rintro ⟨h1, h2, h3, h4⟩
    refine ⟨h1, h2, h3, ?_⟩
    rcases h4 with h | h
    · subst h; exact .inl hz.symm
    · exact .inr h
  · rintro ⟨h1, h2, h3, h4⟩
    refine ⟨h1, h2, h3, ?_⟩
    rcases h4 with h | h
    · exact .inl (List.length_eq_zero_iff.1 (hz.trans h))
    · exact .inr h
set_option maxRecDepth 100000 in
set_option maxHeartbeats 4000000 in
theorem walk_same (A1 : Option Addr) (n c1 : Nat) (A2 : Option Addr) (m c2 : Nat) (w : World) (hM : True) (h : MsA w A1 n) (g : MsA w A2 m) : Calls Tryd.prog 9 #[.slice A1 n c1, .slice A2 m c2] w fun e w' => e = .returned (.bool true) ∧ Below w.heap.size w w' := by
  have hn := h.1
  have hm := g.1
  obtain ⟨rs, hl, hraw⟩ := h.raws
  obtain ⟨qs, gl, graw⟩ := g.raws
  have hsh := Lib.hid (shown_any w)
  replace hraw := Lib.hid hraw
  replace graw := Lib.hid graw
  replace hn := Lib.hid hn
  replace hm := Lib.hid hm
  replace hl := Lib.hid hl
  replace gl := Lib.hid gl
  clear h g hM
  go_enter Tryd.func9, Tryd.ntmps9
  go_wp2_with (fail)
  refine hsh.out.mono ?_
  rintro e w1 ⟨rfl, hB⟩
  have hmk := Lib.hid (marks_any A1 rs n c1 w1 hl.out hn.out (hraw.out.kept hB))
  replace hB := Lib.hid hB
  clear hsh hraw
  go_wp2_with (fail)
  refine hmk.out.mono ?_
  rintro e w2 ⟨A3, A4, c3, c4, zs, r1, rfl, hM1, hR1, hRf, hb2⟩
  have hzl : zs.length = n := hRf.1.trans hl.out
  have hB2 := Lib.hid (hB.out.trans (hb2.mono hB.out.size))
  have gmk := Lib.hid (marks_any A2 qs m c2 w2 gl.out hm.out (graw.out.kept hB2.out))
  replace hM1 := Lib.hid hM1
  replace hR1 := Lib.hid hR1
  replace hRf := Lib.hid hRf
  replace hzl := Lib.hid hzl
  clear hmk hB hb2 graw
  go_wp2_with (fail)
  refine gmk.out.mono ?_
  rintro e w3 ⟨A5, A6, c5, c6, vs, r2, rfl, gM1, gR1, gRf, gb2⟩
  have gzl : vs.length = m := gRf.1.trans gl.out
  have hB3 := Lib.hid (hB2.out.trans (gb2.mono hB2.out.size))
  have hM3 := hM1.out.kept gb2
  have hR3 := hR1.out.kept gb2
  have hS := hRf.out.2.1
  have gS := gRf.2.1
  clear gmk gb2 hM1 hR1 hB2
  by_cases hC : (r1 = true ∧ rightZ zs) ∧ (r2 = true ∧ rightZ vs) ∧ n = m
  · obtain ⟨⟨rfl, hZ⟩, ⟨rfl, gZ⟩, rfl⟩ := hC
    have hD := refs_dr hRf.out rfl hZ
    have gD := refs_dr gRf rfl gZ
    obtain ⟨r, hr⟩ : ∃ r : Bool, r = true ↔ (n = 0 ∨ ∃ k : Nat, k < 4 ∧ fitsN zs vs k) := by classical exact ⟨decide (n = 0 ∨ ∃ k : Nat, k < 4 ∧ fitsN zs vs k), decide_eq_true_iff⟩
    have hk1 := Lib.hid (rsame_ok A4 A6 zs vs n c4 c6 w3 hzl.out gzl hR3 gR1 hZ gZ hS gS r hr)
    have hk2 := Lib.hid (fun W (hb : Below w3.heap.size w3 W) => psame_ok A3 A5 rs qs zs vs n c3 c5 W hl.out gl.out (hM3.kept hb) (gM1.kept hb) hD gD r hr)
    clear hr hD gD hZ gZ hS gS hM3 hR3 gM1 gR1 hRf gRf hzl gzl
    go_wp2_with (fail)
    refine hk1.out.mono ?_
    rintro e w4 ⟨rfl, hb4⟩
    replace hb4 := Lib.hid hb4
    clear hk1
    go_wp2_with (fail)
    refine (hk2.out _ hb4.out).mono ?_
    rintro e w5 ⟨rfl, hb5⟩
    replace hb5 := Lib.hid (hb4.out.trans (hb5.mono hb4.out.size))
    clear hk2 hb4
    go_wp2_with (fail)
    go_returns
    exact ⟨by first | rfl | simp, hB3.out.trans (hb5.out.mono hB3.out.size)⟩
  · have hk2 := Lib.hid (fun W (hb : Below w3.heap.size w3 W) => psame_no A3 A5 rs qs n m c3 c5 W hl.out gl.out (hM3.kept hb) (gM1.kept hb) (fun hh => hC ⟨(refs_rg hRf.out).1 hh.2.1, (refs_rg gRf).1 hh.2.2, hh.1⟩))
    cases r1
    · clear hC hS gS hM3 hR3 gM1 gR1 hRf gRf hzl gzl
      go_wp2_with (fail)
      refine (hk2.out _ (Below.refl _ _)).mono ?_
      rintro e w5 ⟨rfl, hb5⟩
      replace hb5 := Lib.hid hb5
      go_wp2_with (fail)
      go_returns
      exact ⟨by first | rfl | simp, hB3.out.trans (hb5.out.mono hB3.out.size)⟩
    · cases r2
      · clear hC hS gS hM3 hR3 gM1 gR1 hRf gRf hzl gzl
        go_wp2_with (fail)
        refine (hk2.out _ (Below.refl _ _)).mono ?_
        rintro e w5 ⟨rfl, hb5⟩
        replace hb5 := Lib.hid hb5
        go_wp2_with (fail)
        go_returns
        exact ⟨by first | rfl | simp, hB3.out.trans (hb5.out.mono hB3.out.size)⟩
      · have hk1 := Lib.hid (rsame_no A4 A6 zs vs n m c4 c6 w3 hzl.out gzl hR3 gR1 hS gS (fun hh => hC ⟨⟨rfl, hh.1⟩, ⟨rfl, hh.2.1⟩, hh.2.2⟩))
        clear hC hS gS hM3 hR3 gM1 gR1 hRf gRf hzl gzl
        go_wp2_with (fail)
        refine hk1.out.mono ?_
        rintro e w4 ⟨rfl, hb4⟩
        replace hb4 := Lib.hid hb4
        clear hk1
        go_wp2_with (fail)
        refine (hk2.out _ hb4.out).mono ?_
        rintro e w5 ⟨rfl, hb5⟩
        replace hb5 := Lib.hid (hb4.out.trans (hb5.mono hb4.out.size))
        clear hk2 hb4
        go_wp2_with (fail)
        go_returns
        exact ⟨by first | rfl | simp, hB3.out.trans (hb5.out.mono hB3.out.size)⟩
end Go.Proofs.YtndgcndmkfjdgaaDoor
