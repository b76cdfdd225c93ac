import Derived.Test.YtndgcndmkfjdgaaDoorPlDb
import Derived.Test.YtndgcndmkfjdgaaDoorPlZ
namespace Go.Proofs.YtndgcndmkfjdgaaDoor
open Go.RowKit Go.Extern.Stop Go.Stop Go.Extern
set_option linter.unusedVariables false
set_option linter.unusedSimpArgs false
/-! PlaneDraws -/
set_option maxRecDepth 100000 in
theorem rdraw_nil (A : Option Addr) (c : Nat) (w : World) : Calls Tryd.prog 19 #[.slice A 0 c] w fun e w' => e = .returned (.tuple #[.string ⟨#[]⟩, .bool true]) ∧ w' = w := by
  go_enter Tryd.func19, Tryd.ntmps19
  go_wp2_with (fail)
  go_returns
  exact ⟨rfl, rfl⟩
theorem MsA.less {W : World} {A : Option Addr} {n m : Nat} (h : MsA W A n) (hm : m ≤ n) : MsA W A m := ⟨Nat.le_trans hm h.1, fun i hi => h.2 i (Nat.lt_of_lt_of_le hi hm)⟩
theorem MsA.form {W : World} {A : Option Addr} {n : Nat} (h : MsA W A n) (h0 : 0 < n) : ∃ b o, A = some ⟨b, o, none⟩ := by
  obtain ⟨b, o, x, e, _⟩ := h.2 0 h0
  exact ⟨b, o, e⟩
set_option maxRecDepth 100000 in
set_option maxHeartbeats 4000000 in
theorem walk_draws (A : Option Addr) (n c : Nat) (w : World) (hM : True) (h : MsA w A n) (hcap : n ≤ c) : Calls Tryd.prog 4 #[.slice A n c] w fun e w' => e = .returned (.bool true) ∧ Below w.heap.size w w' := by
  have hsh := Lib.hid (shown_any w)
  by_cases hbig : 100 < n
  · have hb1 : (100 : Int) < (n : Int) := by omega
    have hb2 : (100 : Int) ≤ (c : Int) := by omega
    have hb3 : 100 ≤ c := by omega
    obtain ⟨b, o, rfl⟩ := h.form (by omega)
    have h := h.less (m := 100) (by omega)
    have hn := h.1
    obtain ⟨rs, hl, hraw⟩ := h.raws
    have hmk0 := Lib.hid (fun W (hb : Below w.heap.size w W) => marks_any (some ⟨b, o, none⟩) rs 100 c W hl hn (hraw.kept hb))
    replace hl := Lib.hid hl
    clear h hM hraw hn hbig
    go_enter Tryd.func4, Tryd.ntmps4
    go_wp2_with (fail)
    refine hsh.out.mono ?_
    rintro e w1 ⟨rfl, hB⟩
    have hmk := Lib.hid (hmk0.out w1 hB)
    replace hB := Lib.hid hB
    clear hsh hmk0
    go_wp2_with (fail)
    refine hmk.out.mono ?_
    rintro e w2 ⟨A1, A2, c1, c2, zs, r, rfl, hM1, hR1, hRf, hb2⟩
    have hzl : zs.length = 100 := hRf.1.trans hl.out
    have hS := hRf.2.1
    have hB2 := Lib.hid (hB.out.trans (hb2.mono hB.out.size))
    clear hmk hB hb2
    by_cases hC : r = true ∧ rightZ zs
    · obtain ⟨rfl, hZ⟩ := hC
      have hD := refs_dr hRf rfl hZ
      have hrr := Lib.hid (rright_any A2 zs 100 c2 w2 hzl hR1 hS true ⟨fun _ => hZ, fun _ => rfl⟩)
      have hpd := Lib.hid (fun W (hb : Below w2.heap.size w2 W) => pdraw_go A1 rs zs 100 c1 W hl.out (by omega) (hM1.kept hb) hD)
      have hrd := Lib.hid (fun W (hb : Below w2.heap.size w2 W) => rdraw_any A2 zs 100 c2 W hzl (by omega) (hR1.kept hb) hZ hS)
      obtain ⟨D, hDD⟩ : ∃ D, ByteArray.mk (drawZ zs).toArray = D := ⟨_, rfl⟩
      rw [hDD] at hpd hrd
      by_cases hbig : 99 < wide zs ∨ 99 < high zs
      · rw [if_pos hbig] at hpd hrd
        clear hD hZ hS hR1 hM1 hRf hzl hDD hbig
        go_wp2_with (fail)
        refine hrr.out.mono ?_
        rintro e w3 ⟨rfl, hb3⟩
        have hW := Lib.hid hb3
        clear hrr hb3
        go_wp2_with (fail)
        refine (hpd.out _ hW.out).mono ?_
        rintro e w4 ⟨rfl, hb4⟩
        replace hW := Lib.hid (hW.out.trans (hb4.mono hW.out.size))
        clear hpd hb4
        go_wp2_with (fail)
        refine (hrd.out _ hW.out).mono ?_
        rintro e w5 ⟨rfl, hb5⟩
        replace hW := Lib.hid (hW.out.trans (hb5.mono hW.out.size))
        clear hrd hb5
        go_wp2_with (fail)
        go_returns
        exact ⟨by first | rfl | simp, hB2.out.trans (hW.out.mono hB2.out.size)⟩
      · rw [if_neg hbig] at hpd hrd
        clear hD hZ hS hR1 hM1 hRf hzl hDD hbig
        go_wp2_with (fail)
        refine hrr.out.mono ?_
        rintro e w3 ⟨rfl, hb3⟩
        have hW := Lib.hid hb3
        clear hrr hb3
        go_wp2_with (fail)
        refine (hpd.out _ hW.out).mono ?_
        rintro e w4 ⟨rfl, hb4⟩
        replace hW := Lib.hid (hW.out.trans (hb4.mono hW.out.size))
        clear hpd hb4
        go_wp2_with (fail)
        refine (hrd.out _ hW.out).mono ?_
        rintro e w5 ⟨rfl, hb5⟩
        replace hW := Lib.hid (hW.out.trans (hb5.mono hW.out.size))
        clear hrd hb5
        go_wp2_with (fail)
        go_returns
        exact ⟨by first | rfl | simp, hB2.out.trans (hW.out.mono hB2.out.size)⟩
    · have hpd := Lib.hid (fun W (hb : Below w2.heap.size w2 W) => pdraw_bad A1 rs 100 c1 W hl.out (hM1.kept hb) (fun hh => hC ((refs_rg hRf).1 hh)))
      cases r
      · clear hC hS hR1 hM1 hRf hzl
        go_wp2_with (fail)
        refine (hpd.out _ (Below.refl _ _)).mono ?_
        rintro e w4 ⟨rfl, hb4⟩
        have hW := Lib.hid hb4
        clear hpd hb4
        go_wp2_with (fail)
        go_returns
        exact ⟨by first | rfl | simp, hB2.out.trans (hW.out.mono hB2.out.size)⟩
      · have hrr := Lib.hid (rright_any A2 zs 100 c2 w2 hzl hR1 hS false ⟨fun h => absurd h (by decide), fun h => absurd ⟨rfl, h⟩ hC⟩)
        clear hC hS hR1 hM1 hRf hzl
        go_wp2_with (fail)
        refine hrr.out.mono ?_
        rintro e w3 ⟨rfl, hb3⟩
        have hW := Lib.hid hb3
        clear hrr hb3
        go_wp2_with (fail)
        refine (hpd.out _ hW.out).mono ?_
        rintro e w4 ⟨rfl, hb4⟩
        replace hW := Lib.hid (hW.out.trans (hb4.mono hW.out.size))
        clear hpd hb4
        go_wp2_with (fail)
        go_returns
        exact ⟨by first | rfl | simp, hB2.out.trans (hW.out.mono hB2.out.size)⟩
  · have hb1 : ¬ (100 : Int) < (n : Int) := by omega
    have hn := h.1
    obtain ⟨rs, hl, hraw⟩ := h.raws
    have hmk0 := Lib.hid (fun W (hb : Below w.heap.size w W) => marks_any A rs n c W hl hn (hraw.kept hb))
    by_cases h0 : n = 0
    · subst h0
      replace hl := Lib.hid hl
      clear h hM hraw hn hbig hb1
      go_enter Tryd.func4, Tryd.ntmps4
      go_wp2_with (fail)
      refine hsh.out.mono ?_
      rintro e w1 ⟨rfl, hB⟩
      have hmk := Lib.hid (hmk0.out w1 hB)
      replace hB := Lib.hid hB
      clear hsh hmk0
      go_wp2_with (fail)
      refine hmk.out.mono ?_
      rintro e w2 ⟨A1, A2, c1, c2, zs, r, rfl, hM1, hR1, hRf, hb2⟩
      have hzl : zs.length = 0 := hRf.1.trans hl.out
      have hS := hRf.2.1
      have hB2 := Lib.hid (hB.out.trans (hb2.mono hB.out.size))
      clear hmk hB hb2
      by_cases hC : r = true ∧ rightZ zs
      · obtain ⟨rfl, hZ⟩ := hC
        have hD := refs_dr hRf rfl hZ
        have hrr := Lib.hid (rright_any A2 zs 0 c2 w2 hzl hR1 hS true ⟨fun _ => hZ, fun _ => rfl⟩)
        have hpd := Lib.hid (fun W => pdraw_nil A1 c1 W)
        have hrd := Lib.hid (fun W => rdraw_nil A2 c2 W)
        clear hD hZ hS hR1 hM1 hRf hzl
        go_wp2_with (fail)
        refine hrr.out.mono ?_
        rintro e w3 ⟨rfl, hb3⟩
        have hW := Lib.hid hb3
        clear hrr hb3
        go_wp2_with (fail)
        refine (hpd.out _).mono ?_
        rintro e w4 ⟨rfl, hb4⟩
        replace hW := Lib.hid (hW.out.trans (hb4.mono hW.out.size))
        clear hpd hb4
        go_wp2_with (fail)
        refine (hrd.out _).mono ?_
        rintro e w5 ⟨rfl, rfl⟩
        clear hrd
        go_wp2_with (fail)
        go_returns
        exact ⟨by first | rfl | simp, hB2.out.trans (hW.out.mono hB2.out.size)⟩
      · have hpd := Lib.hid (fun W (hb : Below w2.heap.size w2 W) => pdraw_bad A1 rs 0 c1 W hl.out (hM1.kept hb) (fun hh => hC ((refs_rg hRf).1 hh)))
        cases r
        · clear hC hS hR1 hM1 hRf hzl
          go_wp2_with (fail)
          refine (hpd.out _ (Below.refl _ _)).mono ?_
          rintro e w4 ⟨rfl, hb4⟩
          have hW := Lib.hid hb4
          clear hpd hb4
          go_wp2_with (fail)
          go_returns
          exact ⟨by first | rfl | simp, hB2.out.trans (hW.out.mono hB2.out.size)⟩
        · have hrr := Lib.hid (rright_any A2 zs 0 c2 w2 hzl hR1 hS false ⟨fun h => absurd h (by decide), fun h => absurd ⟨rfl, h⟩ hC⟩)
          clear hC hS hR1 hM1 hRf hzl
          go_wp2_with (fail)
          refine hrr.out.mono ?_
          rintro e w3 ⟨rfl, hb3⟩
          have hW := Lib.hid hb3
          clear hrr hb3
          go_wp2_with (fail)
          refine (hpd.out _ hW.out).mono ?_
          rintro e w4 ⟨rfl, hb4⟩
          replace hW := Lib.hid (hW.out.trans (hb4.mono hW.out.size))
          clear hpd hb4
          go_wp2_with (fail)
          go_returns
          exact ⟨by first | rfl | simp, hB2.out.trans (hW.out.mono hB2.out.size)⟩
    · have hp : 0 < n := by omega
      replace hl := Lib.hid hl
      clear h hM hraw hn hbig h0
      go_enter Tryd.func4, Tryd.ntmps4
      go_wp2_with (fail)
      refine hsh.out.mono ?_
      rintro e w1 ⟨rfl, hB⟩
      have hmk := Lib.hid (hmk0.out w1 hB)
      replace hB := Lib.hid hB
      clear hsh hmk0
      go_wp2_with (fail)
      refine hmk.out.mono ?_
      rintro e w2 ⟨A1, A2, c1, c2, zs, r, rfl, hM1, hR1, hRf, hb2⟩
      have hzl : zs.length = n := hRf.1.trans hl.out
      have hS := hRf.2.1
      have hB2 := Lib.hid (hB.out.trans (hb2.mono hB.out.size))
      clear hmk hB hb2
      by_cases hC : r = true ∧ rightZ zs
      · obtain ⟨rfl, hZ⟩ := hC
        have hD := refs_dr hRf rfl hZ
        have hrr := Lib.hid (rright_any A2 zs n c2 w2 hzl hR1 hS true ⟨fun _ => hZ, fun _ => rfl⟩)
        have hpd := Lib.hid (fun W (hb : Below w2.heap.size w2 W) => pdraw_go A1 rs zs n c1 W hl.out (by omega) (hM1.kept hb) hD)
        have hrd := Lib.hid (fun W (hb : Below w2.heap.size w2 W) => rdraw_any A2 zs n c2 W hzl (by omega) (hR1.kept hb) hZ hS)
        obtain ⟨D, hDD⟩ : ∃ D, ByteArray.mk (drawZ zs).toArray = D := ⟨_, rfl⟩
        rw [hDD] at hpd hrd
        by_cases hbig : 99 < wide zs ∨ 99 < high zs
        · rw [if_pos hbig] at hpd hrd
          clear hD hZ hS hR1 hM1 hRf hzl hDD hbig
          go_wp2_with (fail)
          refine hrr.out.mono ?_
          rintro e w3 ⟨rfl, hb3⟩
          have hW := Lib.hid hb3
          clear hrr hb3
          go_wp2_with (fail)
          refine (hpd.out _ hW.out).mono ?_
          rintro e w4 ⟨rfl, hb4⟩
          replace hW := Lib.hid (hW.out.trans (hb4.mono hW.out.size))
          clear hpd hb4
          go_wp2_with (fail)
          refine (hrd.out _ hW.out).mono ?_
          rintro e w5 ⟨rfl, hb5⟩
          replace hW := Lib.hid (hW.out.trans (hb5.mono hW.out.size))
          clear hrd hb5
          go_wp2_with (fail)
          go_returns
          exact ⟨by first | rfl | simp, hB2.out.trans (hW.out.mono hB2.out.size)⟩
        · rw [if_neg hbig] at hpd hrd
          clear hD hZ hS hR1 hM1 hRf hzl hDD hbig
          go_wp2_with (fail)
          refine hrr.out.mono ?_
          rintro e w3 ⟨rfl, hb3⟩
          have hW := Lib.hid hb3
          clear hrr hb3
          go_wp2_with (fail)
          refine (hpd.out _ hW.out).mono ?_
          rintro e w4 ⟨rfl, hb4⟩
          replace hW := Lib.hid (hW.out.trans (hb4.mono hW.out.size))
          clear hpd hb4
          go_wp2_with (fail)
          refine (hrd.out _ hW.out).mono ?_
          rintro e w5 ⟨rfl, hb5⟩
          replace hW := Lib.hid (hW.out.trans (hb5.mono hW.out.size))
          clear hrd hb5
          go_wp2_with (fail)
          go_returns
          exact ⟨by first | rfl | simp, hB2.out.trans (hW.out.mono hB2.out.size)⟩
      · have hpd := Lib.hid (fun W (hb : Below w2.heap.size w2 W) => pdraw_bad A1 rs n c1 W hl.out (hM1.kept hb) (fun hh => hC ((refs_rg hRf).1 hh)))
        cases r
        · clear hC hS hR1 hM1 hRf hzl
          go_wp2_with (fail)
          refine (hpd.out _ (Below.refl _ _)).mono ?_
          rintro e w4 ⟨rfl, hb4⟩
          have hW := Lib.hid hb4
          clear hpd hb4
          go_wp2_with (fail)
          go_returns
          exact ⟨by first | rfl | simp, hB2.out.trans (hW.out.mono hB2.out.size)⟩
        · have hrr := Lib.hid (rright_any A2 zs n c2 w2 hzl hR1 hS false ⟨fun h => absurd h (by decide), fun h => absurd ⟨rfl, h⟩ hC⟩)
          clear hC hS hR1 hM1 hRf hzl
          go_wp2_with (fail)
          refine hrr.out.mono ?_
          rintro e w3 ⟨rfl, hb3⟩
          have hW := Lib.hid hb3
          clear hrr hb3
          go_wp2_with (fail)
          refine (hpd.out _ hW.out).mono ?_
          rintro e w4 ⟨rfl, hb4⟩
          replace hW := Lib.hid (hW.out.trans (hb4.mono hW.out.size))
          clear hpd hb4
          go_wp2_with (fail)
          go_returns
          exact ⟨by first | rfl | simp, hB2.out.trans (hW.out.mono hB2.out.size)⟩
end Go.Proofs.YtndgcndmkfjdgaaDoor
