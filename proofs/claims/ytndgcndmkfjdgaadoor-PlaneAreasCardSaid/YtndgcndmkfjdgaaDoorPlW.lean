import Derived.Test.YtndgcndmkfjdgaaDoorPlV
namespace Go.Proofs.YtndgcndmkfjdgaaDoor
open Go.RowKit Go.Extern.Stop Go.Stop Go.Extern
set_option linter.unusedVariables false
set_option linter.unusedSimpArgs false
/-! PlaneAreas: the walk -/
theorem back_next (x y v1 v2 w h : Int) (j q : Nat) (hj : j < 4) (hq : 3 - (j : Int) = (q : Int)) : ∃ m, (recZ x y v1 v2 w h)[q]? = some m ∧ ((backZ (recZ x y v1 v2 w h)).take (j + 1)).map mkW = ((backZ (recZ x y v1 v2 w h)).take j).map mkW ++ [mkW (m.2, m.1)] := by
  rcases (by omega : j = 0 ∧ q = 3 ∨ j = 1 ∧ q = 2 ∨ j = 2 ∧ q = 1 ∨ j = 3 ∧ q = 0) with ⟨rfl, rfl⟩ | ⟨rfl, rfl⟩ | ⟨rfl, rfl⟩ | ⟨rfl, rfl⟩ <;> exact ⟨_, rfl, by simp [recZ, backZ]⟩
theorem rec_back_ok (x y v1 v2 w h : Int) (hk : ∀ m ∈ recZ x y v1 v2 w h, mkOk m) : ∀ m ∈ backZ (recZ x y v1 v2 w h), mkOk m := by
  intro m hm
  unfold backZ at hm
  obtain ⟨m', hm', rfl⟩ := List.mem_map.1 hm
  have := hk m' (List.mem_reverse.1 hm')
  exact ⟨this.2.1, this.1, fun hh => this.2.2 (by rw [eq_comm, hh, eq_comm])⟩
theorem area_small {a b : Int} (ha : 1 ≤ a ∧ a ≤ 1000) (hb : 1 ≤ b ∧ b ≤ 1000) : 0 ≤ 2 * a * b ∧ 2 * a * b ≤ 2000000 := by
  have h1 : 0 ≤ 2 * a * b := Int.mul_nonneg (by omega) (by omega)
  have h2 : 2 * a * b ≤ 2000 * 1000 := Int.mul_le_mul (by omega) (by omega) (by omega) (by omega)
  omega
set_option maxRecDepth 100000 in
set_option maxHeartbeats 8000000 in
theorem walk_areas (a0 a1 a2 a3 a4 : Int) (w : World) (hM : True) (h0 : -9223372036854775808 ≤ a0 ∧ a0 ≤ 9223372036854775807) (h1 : -9223372036854775808 ≤ a1 ∧ a1 ≤ 9223372036854775807) (h2 : -9223372036854775808 ≤ a2 ∧ a2 ≤ 9223372036854775807) (h3 : -9223372036854775808 ≤ a3 ∧ a3 ≤ 9223372036854775807) (h4 : -9223372036854775808 ≤ a4 ∧ a4 ≤ 9223372036854775807) :
    Calls Tryd.prog 7 #[.int .i64 a0, .int .i64 a1, .int .i64 a2, .int .i64 a3, .int .i64 a4] w fun e w' => e = .returned (.bool true) ∧ Below w.heap.size w w' := by
  have hsh := Lib.hid (fun w => shown_any w)
  have hnw := Lib.hid (fun w => tnew w)
  have hv := way4_turn a4
  obtain ⟨⟨v1, v2⟩, hvv⟩ : ∃ v, turnZ (1, 0) a4 = v := ⟨_, rfl⟩
  rw [hvv] at hv
  have hp0 := Lib.hid (fun w => pick_any a0 1000 w h0.1 h0.2 (by decide) (by decide))
  have hp1 := Lib.hid (fun w => pick_any a1 1000 w h1.1 h1.2 (by decide) (by decide))
  have hp2 := Lib.hid (fun w => pick_any a2 1000 w h2.1 h2.2 (by decide) (by decide))
  have hp3 := Lib.hid (fun w => pick_any a3 1000 w h3.1 h3.2 (by decide) (by decide))
  have b0 := pickN_lt a0 1000 (by decide)
  have b1 := pickN_lt a1 1000 (by decide)
  have b2 := pickN_lt a2 1000 (by decide)
  have b3 := pickN_lt a3 1000 (by decide)
  obtain ⟨p0, e0⟩ : ∃ p, pickN a0 1000 = p := ⟨_, rfl⟩
  obtain ⟨p1, e1⟩ : ∃ p, pickN a1 1000 = p := ⟨_, rfl⟩
  obtain ⟨p2, e2⟩ : ∃ p, pickN a2 1000 = p := ⟨_, rfl⟩
  obtain ⟨p3, e3⟩ : ∃ p, pickN a3 1000 = p := ⟨_, rfl⟩
  simp only [show (1000 : Int).toNat = 1000 from rfl, e0, e1, e2, e3] at hp0 hp1 hp2 hp3 b0 b1 b2 b3
  have b0' : (p0 : Int) < 1000 := by omega
  have b1' : (p1 : Int) < 1000 := by omega
  have b2' : (p2 : Int) < 1000 := by omega
  have b3' : (p3 : Int) < 1000 := by omega
  replace hvv := Lib.hid hvv
  replace hv := Lib.hid (show Way4 v1 v2 from hv)
  clear e0 e1 e2 e3 h0 h1 h2 h3 h4 b0 b1 b2 b3 hM
  go_enter Tryd.func7, Tryd.ntmps7
  go_wp2_with (fail)
  refine (hsh.out _).mono ?_
  rintro e w1 ⟨rfl, hB⟩
  clear hsh
  go_wp2_with (fail)
  refine (hp0.out _).mono ?_
  rintro e w9 ⟨rfl, hw_⟩
  replace hw_ := hw_.symm
  subst hw_
  go_wp2_with (fail)
  refine (hp1.out _).mono ?_
  rintro e w9 ⟨rfl, hw_⟩
  replace hw_ := hw_.symm
  subst hw_
  clear hp0 hp1
  go_wp2_with (fail)
  refine (hnw.out _).mono ?_
  rintro e w2 ⟨rfl, hT, hB2⟩
  clear hnw
  have hk : w.heap.size ≤ w1.heap.size := hB.size
  have hB := hB.trans (hB2.mono hB.size)
  obtain ⟨t, ht⟩ : ∃ t, w1.heap.size = t := ⟨_, rfl⟩
  rw [ht] at hk hT ⊢
  clear hB2 ht
  have hT : Tt w2 w.heap.size t (.slice none 0 0) (0, 0) (1, 0) true [] := ⟨hT.bk, World.ownsRow_nil _ _ _ _, hT.sa, hT.un, hT.ok, hT.le⟩
  have s1 := Lib.hid (step_pen hT hB hk false)
  replace hk := Lib.hid hk
  clear hT hB
  go_wp2_with (fail)
  refine s1.out.mono ?_
  rintro e w9 ⟨rfl, hT, hB⟩
  replace hT := Lib.hid hT
  replace hB := Lib.hid hB
  clear s1
  go_wp2_with (fail)
  refine (hp2.out _).mono ?_
  rintro e w9 ⟨rfl, hw_⟩
  replace hw_ := hw_.symm
  subst hw_
  clear hp2
  have s2 := Lib.hid (step_go hT.out hB.out hk.out (p2 : Int) ((p2 : Int), 0) (by unfold toZ; simp) (by unfold Sm; simp; omega))
  clear hT hB
  go_wp2_with (fail)
  refine s2.out.mono ?_
  rintro e w9 ⟨rfl, hT, hB⟩
  replace hT := Lib.hid hT
  replace hB := Lib.hid hB
  clear s2
  have s3 := Lib.hid (step_turnd hT.out hB.out hk.out a4 (v1, v2) hvv.out)
  clear hT hB
  go_wp2_with (fail)
  refine s3.out.mono ?_
  rintro e w9 ⟨rfl, hT, hB⟩
  replace hT := Lib.hid hT
  replace hB := Lib.hid hB
  clear s3
  have s4 := Lib.hid (step_pen hT.out hB.out hk.out true)
  clear hT hB
  go_wp2_with (fail)
  refine s4.out.mono ?_
  rintro e w9 ⟨rfl, hT, hB⟩
  replace hT := Lib.hid hT
  replace hB := Lib.hid hB
  clear s4
  obtain ⟨ww, hww⟩ : ∃ x : Int, 1 + (p0 : Int) = x := ⟨_, rfl⟩
  obtain ⟨hh, hhh⟩ : ∃ x : Int, 1 + (p1 : Int) = x := ⟨_, rfl⟩
  have hwb : 1 ≤ ww ∧ ww ≤ 1000 := by omega
  have hhb : 1 ≤ hh ∧ hh ≤ 1000 := by omega
  have hxb : -1000 ≤ (p2 : Int) ∧ (p2 : Int) ≤ 1000 := by omega
  go_wp2_with (fail)
  clear hww hhh
  go_loopw [13] (fun x wr => ∃ i : Nat, x = .int .i64 i ∧ i ≤ 4 ∧ Hid (∃ V, Tt wr w.heap.size t V (corn p2 v1 v2 ww hh i) (sideW v1 v2 i) true ((recZ p2 0 v1 v2 ww hh).take i) ∧ Below w.heap.size w wr)) (fun x _ => 4 - (intOf x).toNat)
  case atStart => exact ⟨0, rfl, by decide, Lib.hid ⟨_, hT.out, hB.out⟩⟩
  case round =>
    obtain ⟨i, rfl, hi, hQ⟩ := hrel
    obtain ⟨V, hT2, hB2⟩ := hQ.out
    clear hQ hT hB
    by_cases hi4 : i < 4
    · have i0 : (i : Int) < 4 := by omega
      have hsn := side_next p2 v1 v2 ww hh i hi4
      have hsm := corn_sm p2 v1 v2 ww hh hv.out hxb hwb hhb (i + 1)
      have hlen : ((recZ p2 0 v1 v2 ww hh).take i).length < 4096 := by rw [List.length_take]; omega
      rcases (by omega : i % 2 = 0 ∨ i % 2 = 1) with hp | hp
      · have hp' : (i : Int) % 2 = 0 := by omega
        rw [if_neg (by omega)] at hsn
        have hst := step_draw hT2 hB2 hk.out ww _ hsn.1 hsm (by omega) hlen
        rw [← hsn.2] at hst
        replace hst := Lib.hid hst
        clear hT2 hB2 hsn hsm hlen hp
        go_wp2_with (fail)
        refine hst.out.mono ?_
        rintro e w3 ⟨rfl, V', hT3, hB3⟩
        have htn := Lib.hid (step_turn hT3 hB3 hk.out 1 (sideW v1 v2 (i + 1)) rfl)
        clear hst hT3 hB3
        go_wp2_with (fail)
        refine htn.out.mono ?_
        rintro e w4 ⟨rfl, hT4, hB4⟩
        replace hT4 := Lib.hid hT4
        replace hB4 := Lib.hid hB4
        clear htn
        go_wp2_with (fail)
        exact ⟨⟨i + 1, rfl, by omega, Lib.hid ⟨V', hT4.out, hB4.out⟩⟩, by simp [intOf]; omega⟩
      · have hp' : (i : Int) % 2 = 1 := by omega
        rw [if_pos hp] at hsn
        have hst := step_draw hT2 hB2 hk.out hh _ hsn.1 hsm (by omega) hlen
        rw [← hsn.2] at hst
        replace hst := Lib.hid hst
        clear hT2 hB2 hsn hsm hlen hp
        go_wp2_with (fail)
        refine hst.out.mono ?_
        rintro e w3 ⟨rfl, V', hT3, hB3⟩
        have htn := Lib.hid (step_turn hT3 hB3 hk.out 1 (sideW v1 v2 (i + 1)) rfl)
        clear hst hT3 hB3
        go_wp2_with (fail)
        refine htn.out.mono ?_
        rintro e w4 ⟨rfl, hT4, hB4⟩
        replace hT4 := Lib.hid hT4
        replace hB4 := Lib.hid hB4
        clear htn
        go_wp2_with (fail)
        exact ⟨⟨i + 1, rfl, by omega, Lib.hid ⟨V', hT4.out, hB4.out⟩⟩, by simp [intOf]; omega⟩
    · obtain rfl : i = 4 := by omega
      have hT : Hid (Tt _ w.heap.size t V (corn p2 v1 v2 ww hh 4) (sideW v1 v2 4) true (recZ p2 0 v1 v2 ww hh)) := Lib.hid hT2
      have hB := Lib.hid hB2
      have hmr := Lib.hid (marks_read hT.out)
      clear hT2 hB2
      go_wp2_with (fail)
      refine hmr.out.mono ?_
      rintro e w9 ⟨A, c, rfl, hM, hb⟩
      have hW := Lib.hid (hB.out.trans (hb.mono hB.out.size))
      have hD := dr_of (zs := recZ p2 0 v1 v2 ww hh) (by simp [recZ]) (rec_ok p2 0 v1 v2 ww hh hv.out hxb (by decide) hwb hhb)
      have har := Lib.hid (parea_ok A _ (recZ p2 0 v1 v2 ww hh) 4 c w9 (by simp [recZ]) hM hD (rec_closed p2 0 v1 v2 ww hh))
      rw [rec_area p2 0 v1 v2 ww hh hv.out] at har
      obtain ⟨ar, hare⟩ : ∃ x, 2 * ww * hh = x := ⟨_, rfl⟩
      rw [hare] at har
      replace hD := Lib.hid hD
      replace hM := Lib.hid hM
      replace hare := Lib.hid hare
      clear hmr hB hT
      have hl4 : (recZ p2 0 v1 v2 ww hh).length = 4 := rfl
      rw [hl4]
      clear hl4
      go_wp2_with (fail)
      refine har.out.mono ?_
      rintro e wa ⟨rfl, hb⟩
      replace hM := Lib.hid (hM.out.kept hb)
      replace hW := Lib.hid (hW.out.trans (hb.mono hW.out.size))
      clear har hb
      go_wp2_with (fail)
      refine (hp3.out _).mono ?_
      rintro e w9 ⟨rfl, hw_⟩
      replace hw_ := hw_.symm
      subst hw_
      clear hp3
      have hws : Sm ((0 : Int), (p3 : Int)) 16777216 := by unfold Sm; simp; omega
      have hmv := (pmoved_any A _ (recZ p2 0 v1 v2 ww hh) 4 c 0 (floatOfInt .f64 (p3 : Int)) (0, (p3 : Int)) wa (by simp [recZ]) hM.out hD.out ⟨wd_zero, by rw [wd_int _ (by omega)]; exact wd_fi _ false (by omega)⟩ hws).mono fun e w' h => h.out
      have hmv : Calls Tryd.prog 35 #[.slice A 4 c, .complex .f64 0 (floatOfInt .f64 (p3 : Int))] wa fun e w' => ∃ A' c', e = .returned (.tuple #[.slice A' 4 c', .int .i64 0]) ∧ Hid (Mks w' A' ((recZ p2 p3 v1 v2 ww hh).map mkW) ∧ Below wa.heap.size wa w') := hmv.mono fun e w' h => by
        unfold Eachd at h
        rw [if_pos (by
          intro i hi
          have hmv := rec_moved (p2 : Int) 0 v1 v2 ww hh p3
          have hi4 : i < 4 := hi
          have hok := rec_ok p2 (0 + p3) v1 v2 ww hh hv.out hxb (by omega) hwb hhb
          rw [← hmv] at hok
          have hg : (recZ p2 0 v1 v2 ww hh).getD i m0 ∈ recZ p2 0 v1 v2 ww hh := by rw [List.getD_eq_getElem?_getD, List.getElem?_eq_getElem hi]; exact List.getElem_mem hi
          have := hok _ (List.mem_map_of_mem hg)
          exact ⟨this.1, this.2.1⟩), rec_moved, Int.zero_add] at h
        obtain ⟨A', c', he, hm, hb⟩ := h
        exact ⟨A', c', he, Lib.hid ⟨hm, hb⟩⟩
      replace hmv := Lib.hid hmv
      clear hws
      go_wp2_with (fail)
      refine hmv.out.mono ?_
      rintro e wb ⟨Ab, cb, rfl, hbb⟩
      have hMb := hbb.out.1
      replace hM := Lib.hid (hM.out.kept hbb.out.2)
      replace hW := Lib.hid (hW.out.trans (hbb.out.2.mono hW.out.size))
      have hDb := dr_of (zs := recZ p2 p3 v1 v2 ww hh) (by simp [recZ]) (rec_ok p2 p3 v1 v2 ww hh hv.out hxb (by omega) hwb hhb)
      have har := Lib.hid (parea_ok Ab _ (recZ p2 p3 v1 v2 ww hh) 4 cb wb (by simp [recZ]) hMb hDb (rec_closed p2 p3 v1 v2 ww hh))
      rw [rec_area p2 p3 v1 v2 ww hh hv.out, hare.out] at har
      clear hmv hbb hMb hDb
      go_wp2_with (fail)
      refine har.out.mono ?_
      rintro e wc ⟨rfl, hb⟩
      replace hM := Lib.hid (hM.out.kept hb)
      replace hW := Lib.hid (hW.out.trans (hb.mono hW.out.size))
      clear har hb
      go_wp2_with (fail)
      go_loopw [22, 23] (fun s x wr => ∃ (j : Nat) (A' : Option Addr) (c' : Nat), s = .slice A' j c' ∧ x = .int .i64 (3 - (j : Int)) ∧ j ≤ 4 ∧ Hid (wr.ownsRow wc.heap.size 65 2 (.slice A' j c') j (mwsC (((backZ (recZ p2 0 v1 v2 ww hh)).take j).map mkW)) ∧ Below wc.heap.size wc wr)) (fun _ x _ => (intOf x + 1).toNat)
      case atStart => exact ⟨0, none, 0, rfl, by first | rfl | simp, by decide, Lib.hid ⟨World.ownsRow_nil _ _ _ _, Below.refl _ _⟩⟩
      case round =>
        obtain ⟨j, A', c', rfl, rfl, hj0, hR⟩ := hrel
        obtain ⟨hrow, hW2⟩ := hR.out
        clear hR
        by_cases hj : j < 4
        · obtain ⟨q, hq⟩ : ∃ q : Nat, 3 - (j : Int) = (q : Int) := ⟨3 - j, by omega⟩
          have q0 : (0 : Int) ≤ (q : Int) := by omega
          have q1 : (q : Int) < 4 := by omega
          have hq4 : q < ((recZ p2 0 v1 v2 ww hh).map mkW).length := by simp [recZ]; omega
          rw [hq]
          obtain ⟨b, off, rfl, hbl, c0, c1, hLt⟩ := hM.out q hq4
          obtain ⟨m, hmx, hnx⟩ := back_next p2 0 v1 v2 ww hh j q hj hq
          have hgx : ((recZ p2 0 v1 v2 ww hh).map mkW)[q] = mkW m := by
            have := List.getElem?_eq_getElem hq4
            rw [List.getElem?_map, hmx] at this
            exact (Option.some.inj this).symm
          rw [hgx] at c0 c1
          have hsw : mkW (m.2, m.1) = ((mkW m).2, (mkW m).1) := rfl
          rw [hsw] at hnx
          obtain ⟨⟨⟨x1, x2⟩, y1, y2⟩, hx⟩ : ∃ p, mkW m = p := ⟨_, rfl⟩
          rw [hx] at c0 c1 hnx
          simp only at c0 c1 hnx
          have hcell : Hid (∀ W, Below wc.heap.size wc W → W.cell? ⟨b, off + q * 2, none⟩ = some (.complex .f64 x1 x2) ∧ W.cell? ⟨b, off + q * 2 + 1, none⟩ = some (.complex .f64 y1 y2)) := Lib.hid (fun W hb => ⟨(hb.cell (p := ⟨b, off + q * 2, none⟩) hbl).trans c0, (hb.cell (p := ⟨b, off + q * 2 + 1, none⟩) hbl).trans c1⟩)
          obtain ⟨A2, c2, w5, hrun, hown, hgr⟩ := mw_append (w := wr.drew) (V := .slice A' j c') ((y1, y2), x1, x2) (own_draws hrow 1) hW2.size (by omega)
          rw [← hnx] at hown
          have hB5 := below_grown2 (below_drew hW2) hgr hW2.size (own_ge hrow)
          obtain ⟨k0, k1⟩ := hcell.out wr hW2
          simp only at hrun
          replace hrun := Lib.hid hrun
          replace hown := Lib.hid hown
          replace hB5 := Lib.hid hB5
          have hqj := Lib.hid (show (q : Int) - 1 = 3 - ((j + 1 : Nat) : Int) by omega)
          replace hq := Lib.hid hq
          clear hLt hrow hW2 hgr hx hnx hsw hgx hmx c0 c1 hq4
          go_wp2_with (fail)
          go_region_held3 (fun w' => w'.cell? ⟨b, off + q * 2, none⟩ = some (.complex .f64 x1 x2) ∧ w'.cell? ⟨b, off + q * 2 + 1, none⟩ = some (.complex .f64 y1 y2)) (first | (simp [go_sem, *]; done) | go_keep) ((refine step_append_run rfl (.tmp 95) (.tmp 107) 24 rfl (.slice A' j c') _ _ rfl rfl hrun.out ?_; have kS : w5.cell? ⟨b, off + q * 2, none⟩ = some (.complex .f64 x1 x2) ∧ w5.cell? ⟨b, off + q * 2 + 1, none⟩ = some (.complex .f64 y1 y2) := hcell.out w5 hB5.out))
          all_goals
            go_wp2_with (fail)
            exact ⟨⟨j + 1, A2, c2, rfl, by rw [← hqj.out], by omega, Lib.hid ⟨hown.out, hB5.out⟩⟩, by first | (simp [intOf]; done) | (simp [intOf]; omega)⟩
        · obtain rfl : j = 4 := by omega
          have hok := rec_back_ok p2 0 v1 v2 ww hh (rec_ok p2 0 v1 v2 ww hh hv.out hxb (by decide) hwb hhb)
          rw [show (backZ (recZ p2 0 v1 v2 ww hh)).take 4 = backZ (recZ p2 0 v1 v2 ww hh) by simp [backZ, recZ]] at hrow
          have hMr := (own_mks hrow (mkW_lt (fun m hm => ⟨(hok m hm).1, (hok m hm).2.1⟩))).2
          have har := Lib.hid (parea_ok A' _ (backZ (recZ p2 0 v1 v2 ww hh)) 4 c' _ (by simp [backZ, recZ]) hMr (dr_of (by simp [backZ, recZ]) hok) (rec_back_closed p2 0 v1 v2 ww hh))
          rw [rec_back_area p2 0 v1 v2 ww hh hv.out, hare.out] at har
          have hsm := area_small hwb hhb
          rw [hare.out] at hsm
          have hW3 := Lib.hid (hW.out.trans (hW2.mono hW.out.size))
          have e1 : 2 * ww * hh = ar := hare.out
          clear hrow hMr hok hW2 hM hD hW hare
          go_wp2_with (fail)
          refine har.out.mono ?_
          rintro e wz ⟨rfl, hb⟩
          have hW4 := Lib.hid (hW3.out.trans (hb.mono hW3.out.size))
          clear har hb hW3
          go_wp2_with (fail)
          go_returns
          exact ⟨rfl, hW4.out⟩
end Go.Proofs.YtndgcndmkfjdgaaDoor
