import Derived.Test.YtndgcndmkfjdgaaDoorPlR
namespace Go.Proofs.YtndgcndmkfjdgaaDoor
open Go.RowKit Go.Extern.Stop Go.Stop Go.Extern
set_option linter.unusedVariables false
set_option linter.unusedSimpArgs false
/-! PlaneMoves -/
set_option maxRecDepth 100000 in
set_option maxHeartbeats 8000000 in
theorem walk_moves (A : Option Addr) (n c re im : Nat) (k : Int) (w : World) (hM : True) (h : MsA w A n) (hre : re < 18446744073709551616) (him : im < 18446744073709551616) (hk : -9223372036854775808 ≤ k ∧ k ≤ 9223372036854775807) :
    Calls Tryd.prog 8 #[.slice A n c, .float .f64 re, .float .f64 im, .int .i64 k] w fun e w' => e = .returned (.bool true) ∧ Below w.heap.size w w' := by
  have hn := h.1
  obtain ⟨rs, hl, hraw⟩ := h.raws
  have hsh := Lib.hid (shown_any w)
  have hof := Lib.hid (fun W => rof_refd (x := (re, im)) ⟨hre, him⟩ W)
  replace hraw := Lib.hid hraw
  replace hn := Lib.hid hn
  replace hl := Lib.hid hl
  replace hre := Lib.hid (And.intro hre him)
  clear h hM him hk
  go_enter Tryd.func8, Tryd.ntmps8
  go_wp2_with (fail)
  refine hsh.out.mono ?_
  rintro e w1 ⟨rfl, hB⟩
  have hmk := Lib.hid (marks_any A rs n c w1 hl.out hn.out (hraw.out.kept hB))
  replace hB := Lib.hid hB
  clear hsh hraw
  go_wp2_with (fail)
  refine hmk.out.mono ?_
  rintro e w2 ⟨A1, A2, c1, c2, zs, r, rfl, hM1, hR1, hRf, hb2⟩
  have hzl : zs.length = n := hRf.1.trans hl.out
  have hS := hRf.2.1
  have hB2 := Lib.hid (hB.out.trans (hb2.mono hB.out.size))
  clear hmk hB hb2
  by_cases hC : r = true ∧ rightZ zs
  · obtain ⟨rfl, hZ⟩ := hC
    have hD := refs_dr hRf rfl hZ
    have hn4 : n ≤ 4096 := by rw [← hzl]; exact hZ.1
    have hI : ∀ m ∈ zs, inR m := fun m hm => by
      obtain ⟨i, hi, rfl⟩ := List.getElem_of_mem hm
      have := hS i hi
      rwa [List.getD_eq_getElem?_getD, List.getElem?_eq_getElem hi] at this
    have hti := turned_in k (zs := zs) (fun i hi => hS i hi)
    have hrr := Lib.hid (rright_any A2 zs n c2 w2 hzl hR1 hS true ⟨fun _ => hZ, fun _ => rfl⟩)
    have htn := Lib.hid (fun W (hb : Below w2.heap.size w2 W) => pturned_any A1 rs zs n c1 k W hl.out (hM1.kept hb) hD)
    have hrt := Lib.hid (fun W (hb : Below w2.heap.size w2 W) => rturned_any A2 zs n c2 k W hzl hn4 (hR1.kept hb) hI)
    have hrm := Lib.hid (fun (d : Pt) (hd : Sm d 16777216) W (hb : Below w2.heap.size w2 W) => rmoved_any A2 zs n c2 d W hzl hn4 (hR1.kept hb) hI hd)
    have hmv := Lib.hid (fun (d : Pt) (hd : Sm d 16777216) (hnm : Nm (re, im) d) W (hb : Below w2.heap.size w2 W) => pmoved_any A1 rs zs n c1 re im d W hl.out (hM1.kept hb) hD hnm hd)
    have hma := Lib.hid (fun (hno : ¬ (Rt re ∧ Rt im)) W (hb : Below w2.heap.size w2 W) => pmoved_arg A1 rs n c1 re im W hl.out (hM1.kept hb) hre.out (.inl hno))
    replace hzl := Lib.hid hzl
    replace hn4 := Lib.hid hn4
    replace hti := Lib.hid hti
    clear hI hD hZ hS hRf hM1 hR1 hn hre
    go_wp2_with (fail)
    refine hrr.out.mono ?_
    rintro e w3 ⟨rfl, hb3⟩
    have hW : Hid (Below w2.heap.size w2 w3) := Lib.hid hb3
    clear hrr hb3
    go_wp2_with (fail)
    refine (hof.out _).mono ?_
    rintro e w4 ⟨⟨z1, z2⟩, ok, rfl, hz, hb4⟩
    replace hW := Lib.hid ((hW.out.trans (hb4.mono hW.out.size)).alloc (hW.out.trans (hb4.mono hW.out.size)).size (.cells #[.int .i64 z1, .int .i64 z2] 58))
    have bk := Lib.hid (Bk.fresh w4 58 #[.int .i64 z1, .int .i64 z2])
    replace hz := Lib.hid hz
    clear hb4 hof
    go_wp2_with (fail)
    obtain ⟨F, hF⟩ : ∃ F, w4.heap.size = F := ⟨_, rfl⟩
    obtain ⟨X, hX⟩ : ∃ X, w4.alloc (.cells #[.int .i64 z1, .int .i64 z2] 58) = X := ⟨_, rfl⟩
    rw [hX] at hW bk
    rw [hF] at bk
    rw [hX, hF]
    clear hX hF
    cases ok
    · have hmv := Lib.hid (hma.out (fun hh => by have := hz.out.2.1.2 hh; cases this))
      clear hma hrm hz
      refine (hmv.out _ hW.out).mono ?_
      rintro e w9 ⟨rfl, hb⟩
      (first | (replace hM6 := Lib.hid (hM6.out.kept hb)) | skip)
      replace bk := Lib.hid (bk.out.kept hb bk.out.lt)
      replace hW := Lib.hid (hW.out.trans (hb.mono hW.out.size))
      clear hmv hb
      go_wp2_with (fail)
      refine (htn.out _ hW.out).mono ?_
      rintro e w9 ⟨A4, c4, rfl, hM4, hb⟩
      (first | (replace hM6 := Lib.hid (hM6.out.kept hb)) | skip)
      replace bk := Lib.hid (bk.out.kept hb bk.out.lt)
      replace hW := Lib.hid (hW.out.trans (hb.mono hW.out.size))
      replace hM4 := Lib.hid hM4
      clear htn hb
      go_wp2_with (fail)
      refine (hrt.out _ hW.out).mono ?_
      rintro e w9 ⟨A5, c5, rfl, hR5, hb⟩
      (first | (replace hM6 := Lib.hid (hM6.out.kept hb)) | skip)
      replace bk := Lib.hid (bk.out.kept hb bk.out.lt)
      replace hW := Lib.hid (hW.out.trans (hb.mono hW.out.size))
      have hsm := Lib.hid (same_marks A4 A5 (zs.map (both (fun z => turnZ z k))) n c4 c5 w9 (by rw [List.length_map]; exact hzl.out) (by have := hn4.out; omega) (hM4.out.kept hb) hR5 (all_in hti.out))
      clear hrt hb hM4 hR5
      go_wp2_with (fail)
      refine hsm.out.mono ?_
      rintro e w9 ⟨rfl, hb⟩
      (first | (replace hM6 := Lib.hid (hM6.out.kept hb)) | skip)
      replace bk := Lib.hid (bk.out.kept hb bk.out.lt)
      replace hW := Lib.hid (hW.out.trans (hb.mono hW.out.size))
      clear hsm hb
      go_wp2_with (fail)
      go_returns
      exact ⟨rfl, hB2.out.trans (hW.out.mono hB2.out.size)⟩
    · have hmv := Lib.hid (hmv.out (z1, z2) hz.out.1 (hz.out.2.2 (by first | rfl | trivial)))
      have hrm := Lib.hid (hrm.out (z1, z2) hz.out.1)
      unfold zV at hrm
      clear hma hz
      refine (hmv.out _ hW.out).mono ?_
      intro e w9 hE
      replace hE := hE.out
      unfold Eachd at hE
      rw [hzl.out] at hE
      by_cases hall : ∀ i, i < n → inR (both (fun z => (z.1 + z1, z.2 + z2)) (zs.getD i m0))
      · rw [if_pos hall] at hE
        obtain ⟨A6, c6, rfl, hM6, hb⟩ := hE
        replace bk := Lib.hid (bk.out.kept hb bk.out.lt)
        replace hW := Lib.hid (hW.out.trans (hb.mono hW.out.size))
        replace hM6 := Lib.hid hM6
        replace hall := Lib.hid hall
        clear hmv hb
        go_wp2_with (fail)
        refine (htn.out _ hW.out).mono ?_
        rintro e w9 ⟨A4, c4, rfl, hM4, hb⟩
        (first | (replace hM6 := Lib.hid (hM6.out.kept hb)) | skip)
        replace bk := Lib.hid (bk.out.kept hb bk.out.lt)
        replace hW := Lib.hid (hW.out.trans (hb.mono hW.out.size))
        replace hM4 := Lib.hid hM4
        clear htn hb
        go_wp2_with (fail)
        refine (hrt.out _ hW.out).mono ?_
        rintro e w9 ⟨A5, c5, rfl, hR5, hb⟩
        (first | (replace hM6 := Lib.hid (hM6.out.kept hb)) | skip)
        replace bk := Lib.hid (bk.out.kept hb bk.out.lt)
        replace hW := Lib.hid (hW.out.trans (hb.mono hW.out.size))
        have hsm := Lib.hid (same_marks A4 A5 (zs.map (both (fun z => turnZ z k))) n c4 c5 w9 (by rw [List.length_map]; exact hzl.out) (by have := hn4.out; omega) (hM4.out.kept hb) hR5 (all_in hti.out))
        clear hrt hb hM4 hR5
        go_wp2_with (fail)
        refine hsm.out.mono ?_
        rintro e w9 ⟨rfl, hb⟩
        (first | (replace hM6 := Lib.hid (hM6.out.kept hb)) | skip)
        replace bk := Lib.hid (bk.out.kept hb bk.out.lt)
        replace hW := Lib.hid (hW.out.trans (hb.mono hW.out.size))
        clear hsm hb
        have e0 := bk.out.cell 0
        have e1 := bk.out.cell 1
        simp at e0 e1
        go_wp2_with (fail)
        refine (hrm.out _ hW.out).mono ?_
        intro e w9 hE
        replace hE := hE.out
        unfold Rmoved at hE
        rw [if_pos hall.out] at hE
        obtain ⟨A7, c7, rfl, hR7, hb⟩ := hE
        (first | (replace hM6 := Lib.hid (hM6.out.kept hb)) | skip)
        replace bk := Lib.hid (bk.out.kept hb bk.out.lt)
        replace hW := Lib.hid (hW.out.trans (hb.mono hW.out.size))
        have hsm2 := Lib.hid (same_marks A6 A7 (zs.map (both (fun z => (z.1 + z1, z.2 + z2)))) n c6 c7 w9 (by rw [List.length_map]; exact hzl.out) (by have := hn4.out; omega) hM6.out hR7 (all_in (by rw [hzl.out]; exact hall.out)))
        clear hrm hb e0 e1 hR7 hM6
        go_wp2_with (fail)
        refine hsm2.out.mono ?_
        rintro e w9 ⟨rfl, hb⟩
        (first | (replace hM6 := Lib.hid (hM6.out.kept hb)) | skip)
        replace bk := Lib.hid (bk.out.kept hb bk.out.lt)
        replace hW := Lib.hid (hW.out.trans (hb.mono hW.out.size))
        clear hsm2 hb
        go_wp2_with (fail)
        go_returns
        exact ⟨rfl, hB2.out.trans (hW.out.mono hB2.out.size)⟩
      · rw [if_neg hall] at hE
        obtain ⟨rfl, hb⟩ := hE
        (first | (replace hM6 := Lib.hid (hM6.out.kept hb)) | skip)
        replace bk := Lib.hid (bk.out.kept hb bk.out.lt)
        replace hW := Lib.hid (hW.out.trans (hb.mono hW.out.size))
        replace hall := Lib.hid hall
        clear hmv hb
        go_wp2_with (fail)
        refine (htn.out _ hW.out).mono ?_
        rintro e w9 ⟨A4, c4, rfl, hM4, hb⟩
        (first | (replace hM6 := Lib.hid (hM6.out.kept hb)) | skip)
        replace bk := Lib.hid (bk.out.kept hb bk.out.lt)
        replace hW := Lib.hid (hW.out.trans (hb.mono hW.out.size))
        replace hM4 := Lib.hid hM4
        clear htn hb
        go_wp2_with (fail)
        refine (hrt.out _ hW.out).mono ?_
        rintro e w9 ⟨A5, c5, rfl, hR5, hb⟩
        (first | (replace hM6 := Lib.hid (hM6.out.kept hb)) | skip)
        replace bk := Lib.hid (bk.out.kept hb bk.out.lt)
        replace hW := Lib.hid (hW.out.trans (hb.mono hW.out.size))
        have hsm := Lib.hid (same_marks A4 A5 (zs.map (both (fun z => turnZ z k))) n c4 c5 w9 (by rw [List.length_map]; exact hzl.out) (by have := hn4.out; omega) (hM4.out.kept hb) hR5 (all_in hti.out))
        clear hrt hb hM4 hR5
        go_wp2_with (fail)
        refine hsm.out.mono ?_
        rintro e w9 ⟨rfl, hb⟩
        (first | (replace hM6 := Lib.hid (hM6.out.kept hb)) | skip)
        replace bk := Lib.hid (bk.out.kept hb bk.out.lt)
        replace hW := Lib.hid (hW.out.trans (hb.mono hW.out.size))
        clear hsm hb
        have e0 := bk.out.cell 0
        have e1 := bk.out.cell 1
        simp at e0 e1
        go_wp2_with (fail)
        refine (hrm.out _ hW.out).mono ?_
        intro e w9 hE
        replace hE := hE.out
        unfold Rmoved at hE
        rw [if_neg hall.out] at hE
        obtain ⟨rfl, hb⟩ := hE
        (first | (replace hM6 := Lib.hid (hM6.out.kept hb)) | skip)
        replace bk := Lib.hid (bk.out.kept hb bk.out.lt)
        replace hW := Lib.hid (hW.out.trans (hb.mono hW.out.size))
        clear hrm hb e0 e1
        go_wp2_with (fail)
        go_returns
        exact ⟨rfl, hB2.out.trans (hW.out.mono hB2.out.size)⟩
  · have hno : ¬ Rg rs := fun hg => by
      obtain ⟨zs', hD⟩ := rg_dr.1 hg
      obtain ⟨e1, e2⟩ := dr_refs hRf hD
      subst e2
      exact hC ⟨e1, by rw [hD.1]; exact hD.2.1, fun j hj => (hD.2.2 j (by rw [← hD.1]; exact hj)).2.2.2⟩
    have hmv := Lib.hid (fun W (hb : Below w2.heap.size w2 W) => pmoved_arg A1 rs n c1 re im W hl.out (hM1.kept hb) hre.out (.inr hno))
    have htn := Lib.hid (fun W (hb : Below w2.heap.size w2 W) => pturned_arg A1 rs n c1 k W hl.out (hM1.kept hb) hno)
    cases r
    · clear hno hS hM1 hR1 hRf hzl hC hn hre
      have hW : Hid (Below w2.heap.size w2 w2) := Lib.hid (Below.refl _ _)
      go_wp2_with (fail)
      refine (hof.out _).mono ?_
      rintro e w4 ⟨⟨z1, z2⟩, ok, rfl, hz, hb4⟩
      replace hW := Lib.hid ((hW.out.trans (hb4.mono hW.out.size)).alloc (hW.out.trans (hb4.mono hW.out.size)).size (.cells #[.int .i64 z1, .int .i64 z2] 58))
      have bk := Lib.hid (Bk.fresh w4 58 #[.int .i64 z1, .int .i64 z2])
      replace hz := Lib.hid hz
      clear hb4 hof
      go_wp2_with (fail)
      obtain ⟨F, hF⟩ : ∃ F, w4.heap.size = F := ⟨_, rfl⟩
      obtain ⟨X, hX⟩ : ∃ X, w4.alloc (.cells #[.int .i64 z1, .int .i64 z2] 58) = X := ⟨_, rfl⟩
      rw [hX] at hW bk
      rw [hF] at bk
      rw [hX, hF]
      clear hX hF
      refine (hmv.out _ hW.out).mono ?_
      rintro e w9 ⟨rfl, hb⟩
      (first | (replace hM6 := Lib.hid (hM6.out.kept hb)) | skip)
      replace bk := Lib.hid (bk.out.kept hb bk.out.lt)
      replace hW := Lib.hid (hW.out.trans (hb.mono hW.out.size))
      clear hmv hb
      go_wp2_with (fail)
      refine (htn.out _ hW.out).mono ?_
      rintro e w9 ⟨rfl, hb⟩
      (first | (replace hM6 := Lib.hid (hM6.out.kept hb)) | skip)
      replace bk := Lib.hid (bk.out.kept hb bk.out.lt)
      replace hW := Lib.hid (hW.out.trans (hb.mono hW.out.size))
      clear htn hb hz
      cases ok
      all_goals
        go_wp2_with (fail)
        go_returns
        exact ⟨rfl, hB2.out.trans (hW.out.mono hB2.out.size)⟩
    · have hrr := Lib.hid (rright_any A2 zs n c2 w2 hzl hR1 hS false ⟨fun h => absurd h (by decide), fun h => absurd ⟨rfl, h⟩ hC⟩)
      clear hno hS hM1 hR1 hRf hzl hC hn hre
      go_wp2_with (fail)
      refine hrr.out.mono ?_
      rintro e w3 ⟨rfl, hb3⟩
      have hW : Hid (Below w2.heap.size w2 w3) := Lib.hid hb3
      clear hrr hb3
      go_wp2_with (fail)
      refine (hof.out _).mono ?_
      rintro e w4 ⟨⟨z1, z2⟩, ok, rfl, hz, hb4⟩
      replace hW := Lib.hid ((hW.out.trans (hb4.mono hW.out.size)).alloc (hW.out.trans (hb4.mono hW.out.size)).size (.cells #[.int .i64 z1, .int .i64 z2] 58))
      have bk := Lib.hid (Bk.fresh w4 58 #[.int .i64 z1, .int .i64 z2])
      replace hz := Lib.hid hz
      clear hb4 hof
      go_wp2_with (fail)
      obtain ⟨F, hF⟩ : ∃ F, w4.heap.size = F := ⟨_, rfl⟩
      obtain ⟨X, hX⟩ : ∃ X, w4.alloc (.cells #[.int .i64 z1, .int .i64 z2] 58) = X := ⟨_, rfl⟩
      rw [hX] at hW bk
      rw [hF] at bk
      rw [hX, hF]
      clear hX hF
      refine (hmv.out _ hW.out).mono ?_
      rintro e w9 ⟨rfl, hb⟩
      (first | (replace hM6 := Lib.hid (hM6.out.kept hb)) | skip)
      replace bk := Lib.hid (bk.out.kept hb bk.out.lt)
      replace hW := Lib.hid (hW.out.trans (hb.mono hW.out.size))
      clear hmv hb
      go_wp2_with (fail)
      refine (htn.out _ hW.out).mono ?_
      rintro e w9 ⟨rfl, hb⟩
      (first | (replace hM6 := Lib.hid (hM6.out.kept hb)) | skip)
      replace bk := Lib.hid (bk.out.kept hb bk.out.lt)
      replace hW := Lib.hid (hW.out.trans (hb.mono hW.out.size))
      clear htn hb hz
      cases ok
      all_goals
        go_wp2_with (fail)
        go_returns
        exact ⟨rfl, hB2.out.trans (hW.out.mono hB2.out.size)⟩
end Go.Proofs.YtndgcndmkfjdgaaDoor
