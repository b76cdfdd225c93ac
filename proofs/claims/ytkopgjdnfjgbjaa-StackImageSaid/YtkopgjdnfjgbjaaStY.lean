import Derived.Test.YtkopgjdnfjgbjaaStX
namespace Go.Proofs.Ytkopgjdnfjgbjaa
open Go.RowKit
set_option linter.unusedVariables false
set_option linter.unusedSimpArgs false
/-! StackImage: the walk -/
theorem wrap_byte (b : Nat) (h : b < 256) : wrap64 (b : Int) = b := by unfold wrap64; omega
theorem ints_take {W : World} {A : Option Addr} {sb so : Nat} {vs : List Int} (h : Rowd W A sb so vs) (k : Nat) : Rowd W A sb so (vs.take k) := fun i hi => by
  rw [List.length_take] at hi
  have h1 := h i (by omega)
  refine ⟨h1.1, ?_⟩
  rw [h1.2, List.getElem_take]
set_option maxRecDepth 100000 in
set_option maxHeartbeats 20000000 in
theorem walk_image (d : Int) (A : Option Addr) (n c : Nat) (S : ByteArray) (w : World) (hd : inI d) (hv : Ints w A n) (hn : n ≤ 140737488351232) (hnc : n ≤ c) (hS : S.size ≤ 140737488351232) :
    Calls Try.prog 5 #[.int .i64 d, .slice A n c, .string S] w fun e w' => e = .returned (.bool true) ∧ Below w.heap.size w w' := by
  obtain ⟨sb, so, vs, hvn, hv0, hvi, hsb⟩ := ints_rowd hv
  have hlay := fun w1 => layout4_any d 0 w1 hd (by unfold inI; decide)
  have hbeg := fun w1 => begun_any d 0 w1
  have hok := layOf4_ok d 0
  obtain ⟨L, hL⟩ : ∃ L, layOf4 d 0 = L := ⟨_, rfl⟩
  simp only [hL] at hlay hbeg hok
  clear hL hv
  have hA : 0 < n → A = some ⟨sb, so, none⟩ := fun h => (hv0 0 (by omega)).1
  replace hok := Lib.hid hok
  replace hlay := Lib.hid hlay
  replace hbeg := Lib.hid hbeg
  replace hvn := Lib.hid hvn
  replace hv0 := Lib.hid hv0
  replace hvi := Lib.hid hvi
  replace hsb := Lib.hid hsb
  go_enter Try.func5, Try.ntmps5
  go_wp2_with (fail)
  refine (shown4 _).mono ?_
  rintro e w1 ⟨rfl, hb1⟩
  go_wp2_with (fail)
  refine (hlay.out w1).mono ?_
  rintro e w2 ⟨rfl, hb2⟩
  unfold LV layV
  go_wp2_with (fail)
  obtain ⟨bx, hbx⟩ : ∃ bx, w2.heap.size = bx := ⟨_, rfl⟩
  have hBx := Bk.fresh w2 24 #[.int .i64 L.k, .int .i64 L.s, .int .i64 L.u, .int .i64 L.d, .int .i64 L.r]
  have hb3 : Below w2.heap.size w2 (w2.alloc (.cells #[.int .i64 L.k, .int .i64 L.s, .int .i64 L.u, .int .i64 L.d, .int .i64 L.r] 24)) := (Below.refl _ _).alloc (Nat.le_refl _) _
  have hbg := hbeg.out (w2.alloc (.cells #[.int .i64 L.k, .int .i64 L.s, .int .i64 L.u, .int .i64 L.d, .int .i64 L.r] 24))
  unfold LV layV at hbg
  have hgot : Calls Try.prog 17 #[.agg #[.int .i64 L.k, .int .i64 L.s, .int .i64 L.u, .int .i64 L.d, .int .i64 L.r]] (w2.alloc (.cells #[.int .i64 L.k, .int .i64 L.s, .int .i64 L.u, .int .i64 L.d, .int .i64 L.r] 24)) fun e w' => ∃ a : Ads, e = .returned (.pointer (some ⟨a.wp, 0, none⟩)) ∧ Hid (Bk w' bx 24 #[.int .i64 L.k, .int .i64 L.s, .int .i64 L.u, .int .i64 L.d, .int .i64 L.r]) ∧ Hid (Pl w w' a L (List.replicate L.b6 0) (fun _ => 0)) := by
    refine hbg.mono ?_
    rintro e w3 ⟨a, he, hW, hR⟩
    have hb12 := hb1.trans (hb2.mono hb1.size)
    have hb := hb12.trans (hb3.mono hb12.size)
    rw [hbx] at hBx
    exact ⟨a, he, Lib.hid (hBx.kept hW.be hBx.lt), Lib.hid (begun_pl (hW.base hb) (hR.base hb))⟩
  clear hbg hb1 hb2 hb3 hBx
  rw [hbx]
  clear hbx
  replace hgot := Lib.hid hgot
  refine hgot.out.mono ?_
  rintro e w3 ⟨a, rfl, hBx, hP⟩
  clear hgot
  obtain ⟨B0, hB0⟩ : ∃ B, List.replicate L.b6 (0 : UInt8) = B := ⟨_, rfl⟩
  rw [hB0] at hP
  clear hB0
  obtain ⟨d0, hd0⟩ : ∃ d0 : Nat → Nat, (fun _ => 0) = d0 := ⟨_, rfl⟩
  rw [hd0] at hP
  clear hd0
  obtain ⟨ti, hti, htz, hts, htb⟩ := info_parts info_u8
  have hLd : L.d ≤ 4096 ∧ 64 ≤ L.d := by have := hok.out; unfold Lay.ok at this; omega
  have hmk : ∀ W : World, (Instr.makeSlice 57 (.int .i64 (L.d : Int)) (.int .i64 (L.d : Int))).run Try.prog W = .ok (.slice (some ⟨W.heap.size, 0, none⟩) L.d L.d) (W.alloc (.cells (u8s (List.replicate L.d 0)).toArray 5)) := fun W => by
    have h := run_make (P := Try.prog) W 57 5 ti (.int .u8 0) Try.underlying57 hti htz .i64 .i64 (L.d : Int) (L.d : Int) (by omega) (Int.le_refl _) (by rw [htb]; omega) (by omega)
    rw [hts, Int.toNat_natCast, made_u8] at h
    exact h
  clear hts htb htz hti ti
  have hsb' : 0 < vs.length → sb < w.heap.size := fun h => hsb.out (by rw [← hvn.out]; exact h)
  rcases (by omega : n ≤ 20 ∨ 20 < n) with hle | hgt
  · have i1 : (n : Int) ≤ 20 := by omega
    go_wp2_with (fail)
    obtain ⟨res, B', d', xs', pS, pR, hE⟩ := push_pair hP.out A n c sb so vs hvn.out hn hv0.out hvi.out hsb'
    replace pS := Lib.hid pS
    replace pR := Lib.hid pR
    replace hE := Lib.hid hE
    clear i1 hle
    have k1 := hP.out.wd.cells.2.1
    have k4 := hP.out.wd.cells.2.2.2.2.1
    have hW := Lib.hid hP.out.wd
    have hRs := Lib.hid hP.out.rs
    clear hP
    go_region_held3 (fun w' => w'.cell? ⟨a.wp, 1, none⟩ = some (.pointer (some ⟨a.s0, 0, none⟩)) ∧ w'.cell? ⟨a.wp, 4, none⟩ = some (.pointer (some ⟨a.r0, 0, none⟩))) ((simp [go_sem, *]))
      (first
        | (go_at_call 18; (with_reducible refine Calls.mono (pS.out _ _ _ (by first | exact hW.out | exact hW.out.drew) (by first | exact hRs.out | exact hRs.out.drew)) ?_); rintro e w1_ ⟨rfl, hW, hRs, hK⟩; replace hBx := Lib.hid (hK.out bx _ (by first | exact hBx.out | exact hBx.out.draws 1)); have kS : w1_.cell? ⟨a.wp, 1, none⟩ = some (.pointer (some ⟨a.s0, 0, none⟩)) ∧ w1_.cell? ⟨a.wp, 4, none⟩ = some (.pointer (some ⟨a.r0, 0, none⟩)) := ⟨hW.out.cells.2.1, hW.out.cells.2.2.2.2.1⟩)
        | (go_at_call 24; (with_reducible refine Calls.mono (pR.out _ _ _ (by first | exact hW.out | exact hW.out.drew) (by first | exact hRs.out | exact hRs.out.drew)) ?_); rintro e w1_ ⟨rfl, hW, hRs, hK⟩; replace hBx := Lib.hid (hK.out bx _ (by first | exact hBx.out | exact hBx.out.draws 1)); have kS : w1_.cell? ⟨a.wp, 1, none⟩ = some (.pointer (some ⟨a.s0, 0, none⟩)) ∧ w1_.cell? ⟨a.wp, 4, none⟩ = some (.pointer (some ⟨a.r0, 0, none⟩)) := ⟨hW.out.cells.2.1, hW.out.cells.2.2.2.2.1⟩))
    have hP := Lib.hid (hE.out _ hW.out hRs.out)
    have cx := hBx.out.cell 3
    simp at cx
    clear pS pR hE hW hRs hK hBx kS k1 k4
    have hbl := hP.out.wd.im.by_.lt
    have hBp := Bk.fresh w1_ 5 (u8s (List.replicate L.d 0)).toArray
    have hb4 : Below w1_.heap.size w1_ (w1_.alloc (.cells (u8s (List.replicate L.d 0)).toArray 5)) := (Below.refl _ _).alloc (Nat.le_refl _) _
    obtain ⟨w5, hcp, hB5, hO5⟩ := copy_text (P := Try.prog) (w1_.alloc (.cells (u8s (List.replicate L.d 0)).toArray 5)) 57 9 3 5 Try.underlying57 size_u8 (some ⟨w1_.heap.size, 0, none⟩) w1_.heap.size 0 L.d L.d S (List.replicate L.d 0) 5 hBp (S.data.toList.take (Nat.min S.size L.d)) rfl (fun _ => rfl) (by simp; omega)
    have hPl : (splice (List.replicate L.d 0) 0 (S.data.toList.take (Nat.min S.size L.d))).length = L.d := by rw [splice_len _ _ _ (by simp; omega)]; simp
    obtain ⟨P, hPe⟩ : ∃ P, splice (List.replicate L.d 0) 0 (S.data.toList.take (Nat.min S.size L.d)) = P := ⟨_, rfl⟩
    rw [hPe] at hB5 hPl
    clear hPe
    have hb5 := hb4.trans (hO5.below (B := w1_.heap.size) (Nat.le_refl _) hb4.size)
    have hP5 := Lib.hid (hP.out.bel hb5)
    
    clear hb4 hO5 hBp hP
    go_wp2_with (fail)
    obtain ⟨pb, hpb⟩ : ∃ pb, w1_.heap.size = pb := ⟨_, rfl⟩
    rw [hpb] at hB5 hbl ⊢
    clear hpb cx hb5
    obtain ⟨D, hD⟩ : ∃ D, d' 0 = D := ⟨_, rfl⟩
    have hDr : ∀ W', Rs w W' a (cellsOf L B') d' → W'.cell? ⟨a.r0, 1, none⟩ = some (.int .i64 D) := fun W' h => by rw [← hD]; exact (h.q 0 (by decide)).c1
    have k0 := hP5.out.wd.cells.1
    have k1 := hP5.out.wd.cells.2.1
    have k4 := hP5.out.wd.cells.2.2.2.2.1
    have k5 := hDr _ hP5.out.rs
    have hW := Lib.hid hP5.out.wd
    have hRs := Lib.hid hP5.out.rs
    have hput := Lib.hid (fun W' (h1 : Wd w W' a L B' d') (h2 : Rs w W' a (cellsOf L B') d') (h3 : Bk W' pb 5 (u8s P).toArray) => put_any h1 h2 h3 (by omega) hPl)
    have hdep : ∀ W', Wd w W' a L (splice B' (L.beg 4) P) d' → Calls Try.prog 14 #[.pointer (some ⟨a.s0, 0, none⟩)] W' fun e w2 => e = .returned (.int .i64 D) ∧ w2 = W' := fun W' h1 => by
      have h := depth_any (h1.st 0 (by decide))
      rw [hD] at h
      exact h
    replace hdep := Lib.hid hdep
    have hcv := fun W' (h : Bk W' pb 5 (u8s P).toArray) => string_made W' pb L.d P (bs_of h)
    rw [hPl] at hcv
    obtain ⟨T, hT⟩ : ∃ T : ByteArray, ⟨P.toArray⟩ = T := ⟨_, rfl⟩
    rw [hT] at hcv hput
    clear hT
    have hcv0 := hcv _ hB5
    have hcv1 := hcv w5.drew hB5.draw
    replace hcv := Lib.hid hcv
    replace hB5 := Lib.hid hB5
    replace hDr := Lib.hid hDr
    have hrd := room_data hP5.out.wd hD
    clear hP5
    go_region_held3 (fun w' => w'.cell? ⟨a.wp, 0, none⟩ = some (.pointer (some ⟨a.ip, 0, none⟩)) ∧ w'.cell? ⟨a.wp, 1, none⟩ = some (.pointer (some ⟨a.s0, 0, none⟩)) ∧ w'.cell? ⟨a.wp, 4, none⟩ = some (.pointer (some ⟨a.r0, 0, none⟩)) ∧ w'.cell? ⟨a.r0, 1, none⟩ = some (.int .i64 D) ∧ Sem.run Try.prog (convert 57 9 (.slice (some ⟨pb, 0, none⟩) L.d L.d)) w' = .ok (.string T) w') ((simp [go_sem, *]))
      (first
        | (go_at_call 25; (with_reducible refine Calls.mono (hput.out _ (by first | exact hW.out | exact hW.out.drew) (by first | exact hRs.out | exact hRs.out.drew) (by first | exact hB5.out | exact hB5.out.draw)) ?_); rintro e w2_ ⟨rfl, hW, hRs, hB5⟩; have kS : w2_.cell? ⟨a.wp, 0, none⟩ = some (.pointer (some ⟨a.ip, 0, none⟩)) ∧ w2_.cell? ⟨a.wp, 1, none⟩ = some (.pointer (some ⟨a.s0, 0, none⟩)) ∧ w2_.cell? ⟨a.wp, 4, none⟩ = some (.pointer (some ⟨a.r0, 0, none⟩)) ∧ w2_.cell? ⟨a.r0, 1, none⟩ = some (.int .i64 D) ∧ Sem.run Try.prog (convert 57 9 (.slice (some ⟨pb, 0, none⟩) L.d L.d)) w2_ = .ok (.string T) w2_ := ⟨hW.out.cells.1, hW.out.cells.2.1, hW.out.cells.2.2.2.2.1, hDr.out _ hRs.out, hcv.out _ hB5.out⟩)
        | (go_at_call 14; (with_reducible refine Calls.mono (hdep.out _ (by first | exact hW.out | exact hW.out.drew)) ?_); rintro e w3_ ⟨rfl, hw_⟩; have hw_ := hw_.symm; subst hw_; have kS : w2_.cell? ⟨a.wp, 0, none⟩ = some (.pointer (some ⟨a.ip, 0, none⟩)) ∧ w2_.cell? ⟨a.wp, 1, none⟩ = some (.pointer (some ⟨a.s0, 0, none⟩)) ∧ w2_.cell? ⟨a.wp, 4, none⟩ = some (.pointer (some ⟨a.r0, 0, none⟩)) ∧ w2_.cell? ⟨a.r0, 1, none⟩ = some (.int .i64 D) ∧ Sem.run Try.prog (convert 57 9 (.slice (some ⟨pb, 0, none⟩) L.d L.d)) w2_ = .ok (.string T) w2_ := ⟨hW.out.cells.1, hW.out.cells.2.1, hW.out.cells.2.2.2.2.1, hDr.out _ hRs.out, hcv.out _ hB5.out⟩))
    clear hcv0 hcv1 k0 k1 k4 k5 kS
    have hcl := Lib.hid (cells_wd hW.out hD)
    have k1 := hW.out.cells.2.1
    clear hput hdep hcv
    go_wp2_with (fail)
    refine hcl.out.mono ?_
    rintro e w6 ⟨g, rfl, hX, hW6, hb6⟩
    replace hRs := Lib.hid (hRs.out.bel hb6.out)
    replace hB5 := Lib.hid (hB5.out.kept hb6.out hB5.out.lt)
    have k4 := hW6.out.cells.2.2.2.2.1
    have k5 := hDr.out _ hRs.out
    clear hcl hW hb6 k1
    clear hDr
    have hD0 : 8 * D ≤ 4096 := by have := hrd.1; omega
    obtain ⟨nn, hn0, hns, hn8⟩ : ∃ nn : Nat → Nat → Int, (∀ i, nn i 0 = 0) ∧ (∀ i q, bits .or .i64 (wrap64 (nn i q * 256)) ((P.getD (8 * i + (7 - q)) 0).toNat : Int) = nn i (q + 1)) ∧ (∀ i, i < D → w6.cell? ⟨g, i, none⟩ = some (.int .i64 (nn i 8))) :=
      ⟨fun i q => wrap64 (accV (fun k => P.getD (8 * i + k) 0) q), fun i => by simp [accV, wrap64], fun i q => acc_step (fun k => P.getD (8 * i + k) 0) q, fun i hi => cell_is hX.out hi (by omega) (by have := hrd.2; omega)⟩
    have hby : ∀ i, i < L.d → w6.cell? ⟨pb, i, none⟩ = some (.int .u8 ((P.getD i 0).toNat : Int)) := fun i hi => byte_pb hB5.out (by omega)
    have hbe := Lib.hid hW6.out.be
    replace hn0 := Lib.hid hn0
    replace hns := Lib.hid hns
    replace hn8 := Lib.hid hn8
    replace hby := Lib.hid hby
    replace hrd := Lib.hid hrd
    clear hX hW6 hB5 hRs
    go_wp2_with (fail)
    go_loop [12] (fun x => ∃ i : Nat, x = .int .i64 i ∧ i ≤ D) (fun x => D - (intOf x).toNat)
    case atStart => exact ⟨0, rfl, Nat.zero_le _⟩
    case round =>
      obtain ⟨i, rfl, hi0⟩ := hrel
      by_cases hi : i < D
      · have i1 : (i : Int) < (D : Int) := by omega
        have i0 : (0 : Int) ≤ (i : Int) := by omega
        have hn00 := hn0.out i
        have c8 := hn8.out i hi
        go_wp2_with (fail)
        go_loop [13, 14] (fun x y => ∃ q : Nat, y = .int .i64 ((7 : Int) - q) ∧ q ≤ 8 ∧ x = .int .i64 (nn i q)) (fun x y => (intOf y + 1).toNat)
        case atStart => exact ⟨0, rfl, by omega, by rw [hn00]⟩
        case round =>
          obtain ⟨q, rfl, hq0, rfl⟩ := hrel
          by_cases hq : q < 8
          · obtain ⟨j, hj, hj2, hj8⟩ : ∃ j : Nat, (7 : Int) - q = (j : Int) ∧ 7 - q = j ∧ j < 8 := ⟨7 - q, by omega, rfl, by omega⟩
            have j0 : (0 : Int) ≤ (j : Int) := by omega
            have hd8 := hrd.out.1
            obtain ⟨x, hx⟩ : ∃ x : Nat, 8 * i + j = x := ⟨_, rfl⟩
            have hxi : (8 : Int) * i + j = (x : Int) := by omega
            have x0 : (0 : Int) ≤ (x : Int) := by omega
            have x1 : (x : Int) < (L.d : Int) := by omega
            have hst := hns.out i q
            rw [hj2, hx] at hst
            have cb := hby.out x (by omega)
            obtain ⟨bb, hbb⟩ : ∃ bb : Nat, (P.getD x 0).toNat = bb := ⟨_, rfl⟩
            have hb8 : Hid (bb < 256) := Lib.hid (by have := (P.getD x 0).toNat_lt; omega)
            rw [hbb] at hst cb
            obtain ⟨v, hv⟩ : ∃ v, nn i q = v := ⟨_, rfl⟩
            rw [hv] at hst ⊢
            replace hst := Lib.hid hst
            replace hj2 := Lib.hid hj2
            replace hx := Lib.hid hx
            clear hbb hv hd8
            go_wp2_with (fail)
            refine ⟨⟨q + 1, congrArg (Value.int .i64) (by omega), by omega, ?_⟩, by simp [intOf]; omega⟩
            rw [wrap_byte bb hb8.out, hst.out]
          · have eq : q = 8 := by omega
            subst eq
            go_wp2_with (fail)
            exact ⟨⟨i + 1, rfl, by omega⟩, by simp [intOf]; omega⟩
      · have i1 : ¬ (i : Int) < (D : Int) := by omega
        have e : i = D := by omega
        go_wp2_with (fail)
        go_returns
        exact ⟨rfl, hbe.out⟩
  · have i1 : (20 : Int) < (n : Int) := by omega
    have i2 : (20 : Int) ≤ (c : Int) := by omega
    have hA := hA (by omega)
    subst hA
    go_wp2_with (fail)
    obtain ⟨res, B', d', xs', pS, pR, hE⟩ := push_pair hP.out (some ⟨sb, so, none⟩) 20 c sb so (vs.take 20) (by have := hvn.out; rw [List.length_take]; omega) (by decide) (ints_take hv0.out 20) (fun v hv => hvi.out v (List.mem_of_mem_take hv)) (fun h => hsb' (by rw [List.length_take] at h; omega))
    replace pS := Lib.hid pS
    replace pR := Lib.hid pR
    replace hE := Lib.hid hE
    clear i1 i2 hgt
    have k1 := hP.out.wd.cells.2.1
    have k4 := hP.out.wd.cells.2.2.2.2.1
    have hW := Lib.hid hP.out.wd
    have hRs := Lib.hid hP.out.rs
    clear hP
    go_region_held3 (fun w' => w'.cell? ⟨a.wp, 1, none⟩ = some (.pointer (some ⟨a.s0, 0, none⟩)) ∧ w'.cell? ⟨a.wp, 4, none⟩ = some (.pointer (some ⟨a.r0, 0, none⟩))) ((simp [go_sem, *]))
      (first
        | (go_at_call 18; (with_reducible refine Calls.mono (pS.out _ _ _ (by first | exact hW.out | exact hW.out.drew) (by first | exact hRs.out | exact hRs.out.drew)) ?_); rintro e w1_ ⟨rfl, hW, hRs, hK⟩; replace hBx := Lib.hid (hK.out bx _ (by first | exact hBx.out | exact hBx.out.draws 1)); have kS : w1_.cell? ⟨a.wp, 1, none⟩ = some (.pointer (some ⟨a.s0, 0, none⟩)) ∧ w1_.cell? ⟨a.wp, 4, none⟩ = some (.pointer (some ⟨a.r0, 0, none⟩)) := ⟨hW.out.cells.2.1, hW.out.cells.2.2.2.2.1⟩)
        | (go_at_call 24; (with_reducible refine Calls.mono (pR.out _ _ _ (by first | exact hW.out | exact hW.out.drew) (by first | exact hRs.out | exact hRs.out.drew)) ?_); rintro e w1_ ⟨rfl, hW, hRs, hK⟩; replace hBx := Lib.hid (hK.out bx _ (by first | exact hBx.out | exact hBx.out.draws 1)); have kS : w1_.cell? ⟨a.wp, 1, none⟩ = some (.pointer (some ⟨a.s0, 0, none⟩)) ∧ w1_.cell? ⟨a.wp, 4, none⟩ = some (.pointer (some ⟨a.r0, 0, none⟩)) := ⟨hW.out.cells.2.1, hW.out.cells.2.2.2.2.1⟩))
    have hP := Lib.hid (hE.out _ hW.out hRs.out)
    have cx := hBx.out.cell 3
    simp at cx
    clear pS pR hE hW hRs hK hBx kS k1 k4
    have hbl := hP.out.wd.im.by_.lt
    have hBp := Bk.fresh w1_ 5 (u8s (List.replicate L.d 0)).toArray
    have hb4 : Below w1_.heap.size w1_ (w1_.alloc (.cells (u8s (List.replicate L.d 0)).toArray 5)) := (Below.refl _ _).alloc (Nat.le_refl _) _
    obtain ⟨w5, hcp, hB5, hO5⟩ := copy_text (P := Try.prog) (w1_.alloc (.cells (u8s (List.replicate L.d 0)).toArray 5)) 57 9 3 5 Try.underlying57 size_u8 (some ⟨w1_.heap.size, 0, none⟩) w1_.heap.size 0 L.d L.d S (List.replicate L.d 0) 5 hBp (S.data.toList.take (Nat.min S.size L.d)) rfl (fun _ => rfl) (by simp; omega)
    have hPl : (splice (List.replicate L.d 0) 0 (S.data.toList.take (Nat.min S.size L.d))).length = L.d := by rw [splice_len _ _ _ (by simp; omega)]; simp
    obtain ⟨P, hPe⟩ : ∃ P, splice (List.replicate L.d 0) 0 (S.data.toList.take (Nat.min S.size L.d)) = P := ⟨_, rfl⟩
    rw [hPe] at hB5 hPl
    clear hPe
    have hb5 := hb4.trans (hO5.below (B := w1_.heap.size) (Nat.le_refl _) hb4.size)
    have hP5 := Lib.hid (hP.out.bel hb5)
    
    clear hb4 hO5 hBp hP
    go_wp2_with (fail)
    obtain ⟨pb, hpb⟩ : ∃ pb, w1_.heap.size = pb := ⟨_, rfl⟩
    rw [hpb] at hB5 hbl ⊢
    clear hpb cx hb5
    obtain ⟨D, hD⟩ : ∃ D, d' 0 = D := ⟨_, rfl⟩
    have hDr : ∀ W', Rs w W' a (cellsOf L B') d' → W'.cell? ⟨a.r0, 1, none⟩ = some (.int .i64 D) := fun W' h => by rw [← hD]; exact (h.q 0 (by decide)).c1
    have k0 := hP5.out.wd.cells.1
    have k1 := hP5.out.wd.cells.2.1
    have k4 := hP5.out.wd.cells.2.2.2.2.1
    have k5 := hDr _ hP5.out.rs
    have hW := Lib.hid hP5.out.wd
    have hRs := Lib.hid hP5.out.rs
    have hput := Lib.hid (fun W' (h1 : Wd w W' a L B' d') (h2 : Rs w W' a (cellsOf L B') d') (h3 : Bk W' pb 5 (u8s P).toArray) => put_any h1 h2 h3 (by omega) hPl)
    have hdep : ∀ W', Wd w W' a L (splice B' (L.beg 4) P) d' → Calls Try.prog 14 #[.pointer (some ⟨a.s0, 0, none⟩)] W' fun e w2 => e = .returned (.int .i64 D) ∧ w2 = W' := fun W' h1 => by
      have h := depth_any (h1.st 0 (by decide))
      rw [hD] at h
      exact h
    replace hdep := Lib.hid hdep
    have hcv := fun W' (h : Bk W' pb 5 (u8s P).toArray) => string_made W' pb L.d P (bs_of h)
    rw [hPl] at hcv
    obtain ⟨T, hT⟩ : ∃ T : ByteArray, ⟨P.toArray⟩ = T := ⟨_, rfl⟩
    rw [hT] at hcv hput
    clear hT
    have hcv0 := hcv _ hB5
    have hcv1 := hcv w5.drew hB5.draw
    replace hcv := Lib.hid hcv
    replace hB5 := Lib.hid hB5
    replace hDr := Lib.hid hDr
    have hrd := room_data hP5.out.wd hD
    clear hP5
    go_region_held3 (fun w' => w'.cell? ⟨a.wp, 0, none⟩ = some (.pointer (some ⟨a.ip, 0, none⟩)) ∧ w'.cell? ⟨a.wp, 1, none⟩ = some (.pointer (some ⟨a.s0, 0, none⟩)) ∧ w'.cell? ⟨a.wp, 4, none⟩ = some (.pointer (some ⟨a.r0, 0, none⟩)) ∧ w'.cell? ⟨a.r0, 1, none⟩ = some (.int .i64 D) ∧ Sem.run Try.prog (convert 57 9 (.slice (some ⟨pb, 0, none⟩) L.d L.d)) w' = .ok (.string T) w') ((simp [go_sem, *]))
      (first
        | (go_at_call 25; (with_reducible refine Calls.mono (hput.out _ (by first | exact hW.out | exact hW.out.drew) (by first | exact hRs.out | exact hRs.out.drew) (by first | exact hB5.out | exact hB5.out.draw)) ?_); rintro e w2_ ⟨rfl, hW, hRs, hB5⟩; have kS : w2_.cell? ⟨a.wp, 0, none⟩ = some (.pointer (some ⟨a.ip, 0, none⟩)) ∧ w2_.cell? ⟨a.wp, 1, none⟩ = some (.pointer (some ⟨a.s0, 0, none⟩)) ∧ w2_.cell? ⟨a.wp, 4, none⟩ = some (.pointer (some ⟨a.r0, 0, none⟩)) ∧ w2_.cell? ⟨a.r0, 1, none⟩ = some (.int .i64 D) ∧ Sem.run Try.prog (convert 57 9 (.slice (some ⟨pb, 0, none⟩) L.d L.d)) w2_ = .ok (.string T) w2_ := ⟨hW.out.cells.1, hW.out.cells.2.1, hW.out.cells.2.2.2.2.1, hDr.out _ hRs.out, hcv.out _ hB5.out⟩)
        | (go_at_call 14; (with_reducible refine Calls.mono (hdep.out _ (by first | exact hW.out | exact hW.out.drew)) ?_); rintro e w3_ ⟨rfl, hw_⟩; have hw_ := hw_.symm; subst hw_; have kS : w2_.cell? ⟨a.wp, 0, none⟩ = some (.pointer (some ⟨a.ip, 0, none⟩)) ∧ w2_.cell? ⟨a.wp, 1, none⟩ = some (.pointer (some ⟨a.s0, 0, none⟩)) ∧ w2_.cell? ⟨a.wp, 4, none⟩ = some (.pointer (some ⟨a.r0, 0, none⟩)) ∧ w2_.cell? ⟨a.r0, 1, none⟩ = some (.int .i64 D) ∧ Sem.run Try.prog (convert 57 9 (.slice (some ⟨pb, 0, none⟩) L.d L.d)) w2_ = .ok (.string T) w2_ := ⟨hW.out.cells.1, hW.out.cells.2.1, hW.out.cells.2.2.2.2.1, hDr.out _ hRs.out, hcv.out _ hB5.out⟩))
    clear hcv0 hcv1 k0 k1 k4 k5 kS
    have hcl := Lib.hid (cells_wd hW.out hD)
    have k1 := hW.out.cells.2.1
    clear hput hdep hcv
    go_wp2_with (fail)
    refine hcl.out.mono ?_
    rintro e w6 ⟨g, rfl, hX, hW6, hb6⟩
    replace hRs := Lib.hid (hRs.out.bel hb6.out)
    replace hB5 := Lib.hid (hB5.out.kept hb6.out hB5.out.lt)
    have k4 := hW6.out.cells.2.2.2.2.1
    have k5 := hDr.out _ hRs.out
    clear hcl hW hb6 k1
    clear hDr
    have hD0 : 8 * D ≤ 4096 := by have := hrd.1; omega
    obtain ⟨nn, hn0, hns, hn8⟩ : ∃ nn : Nat → Nat → Int, (∀ i, nn i 0 = 0) ∧ (∀ i q, bits .or .i64 (wrap64 (nn i q * 256)) ((P.getD (8 * i + (7 - q)) 0).toNat : Int) = nn i (q + 1)) ∧ (∀ i, i < D → w6.cell? ⟨g, i, none⟩ = some (.int .i64 (nn i 8))) :=
      ⟨fun i q => wrap64 (accV (fun k => P.getD (8 * i + k) 0) q), fun i => by simp [accV, wrap64], fun i q => acc_step (fun k => P.getD (8 * i + k) 0) q, fun i hi => cell_is hX.out hi (by omega) (by have := hrd.2; omega)⟩
    have hby : ∀ i, i < L.d → w6.cell? ⟨pb, i, none⟩ = some (.int .u8 ((P.getD i 0).toNat : Int)) := fun i hi => byte_pb hB5.out (by omega)
    have hbe := Lib.hid hW6.out.be
    replace hn0 := Lib.hid hn0
    replace hns := Lib.hid hns
    replace hn8 := Lib.hid hn8
    replace hby := Lib.hid hby
    replace hrd := Lib.hid hrd
    clear hX hW6 hB5 hRs
    go_wp2_with (fail)
    go_loop [12] (fun x => ∃ i : Nat, x = .int .i64 i ∧ i ≤ D) (fun x => D - (intOf x).toNat)
    case atStart => exact ⟨0, rfl, Nat.zero_le _⟩
    case round =>
      obtain ⟨i, rfl, hi0⟩ := hrel
      by_cases hi : i < D
      · have i1 : (i : Int) < (D : Int) := by omega
        have i0 : (0 : Int) ≤ (i : Int) := by omega
        have hn00 := hn0.out i
        have c8 := hn8.out i hi
        go_wp2_with (fail)
        go_loop [13, 14] (fun x y => ∃ q : Nat, y = .int .i64 ((7 : Int) - q) ∧ q ≤ 8 ∧ x = .int .i64 (nn i q)) (fun x y => (intOf y + 1).toNat)
        case atStart => exact ⟨0, rfl, by omega, by rw [hn00]⟩
        case round =>
          obtain ⟨q, rfl, hq0, rfl⟩ := hrel
          by_cases hq : q < 8
          · obtain ⟨j, hj, hj2, hj8⟩ : ∃ j : Nat, (7 : Int) - q = (j : Int) ∧ 7 - q = j ∧ j < 8 := ⟨7 - q, by omega, rfl, by omega⟩
            have j0 : (0 : Int) ≤ (j : Int) := by omega
            have hd8 := hrd.out.1
            obtain ⟨x, hx⟩ : ∃ x : Nat, 8 * i + j = x := ⟨_, rfl⟩
            have hxi : (8 : Int) * i + j = (x : Int) := by omega
            have x0 : (0 : Int) ≤ (x : Int) := by omega
            have x1 : (x : Int) < (L.d : Int) := by omega
            have hst := hns.out i q
            rw [hj2, hx] at hst
            have cb := hby.out x (by omega)
            obtain ⟨bb, hbb⟩ : ∃ bb : Nat, (P.getD x 0).toNat = bb := ⟨_, rfl⟩
            have hb8 : Hid (bb < 256) := Lib.hid (by have := (P.getD x 0).toNat_lt; omega)
            rw [hbb] at hst cb
            obtain ⟨v, hv⟩ : ∃ v, nn i q = v := ⟨_, rfl⟩
            rw [hv] at hst ⊢
            replace hst := Lib.hid hst
            replace hj2 := Lib.hid hj2
            replace hx := Lib.hid hx
            clear hbb hv hd8
            go_wp2_with (fail)
            refine ⟨⟨q + 1, congrArg (Value.int .i64) (by omega), by omega, ?_⟩, by simp [intOf]; omega⟩
            rw [wrap_byte bb hb8.out, hst.out]
          · have eq : q = 8 := by omega
            subst eq
            go_wp2_with (fail)
            exact ⟨⟨i + 1, rfl, by omega⟩, by simp [intOf]; omega⟩
      · have i1 : ¬ (i : Int) < (D : Int) := by omega
        have e : i = D := by omega
        go_wp2_with (fail)
        go_returns
        exact ⟨rfl, hbe.out⟩
end Go.Proofs.Ytkopgjdnfjgbjaa
