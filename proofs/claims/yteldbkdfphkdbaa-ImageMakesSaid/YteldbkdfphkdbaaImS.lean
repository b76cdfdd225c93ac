import Derived.Test.YteldbkdfphkdbaaImR
import Derived.Test.YteldbkdfphkdbaaImH
import Derived.Test.YteldbkdfphkdbaaPostInts
namespace Go.Proofs.Yteldbkdfphkdbaa
open Go.RowKit
set_option linter.unusedVariables false
set_option linter.unusedSimpArgs false
theorem sealed_c (p : Nat) (s : Bool) (w : World) (c14 : w.cell? ⟨p, 14, none⟩ = some (.bool s)) : Calls Try.prog 14 #[.pointer (some ⟨p, 0, none⟩)] w fun e w' => e = .returned (.bool s) ∧ w' = w := by
  go_enter Try.func14, Try.ntmps14
  go_wp2_with (fail)
  go_returns
  exact ⟨rfl, rfl⟩
theorem layout_c (p : Nat) (k s u d r : Int) (w : World) (hp : p < w.heap.size) (c0 : w.cell? ⟨p, 0, none⟩ = some (.int .i64 k)) (c1 : w.cell? ⟨p, 1, none⟩ = some (.int .i64 s)) (c2 : w.cell? ⟨p, 2, none⟩ = some (.int .i64 u)) (c3 : w.cell? ⟨p, 3, none⟩ = some (.int .i64 d)) (c4 : w.cell? ⟨p, 4, none⟩ = some (.int .i64 r)) : Calls Try.prog 13 #[.pointer (some ⟨p, 0, none⟩)] w fun e w' => e = .returned (.agg #[.int .i64 k, .int .i64 s, .int .i64 u, .int .i64 d, .int .i64 r]) ∧ Below w.heap.size w w' := by
  go_enter Try.func13, Try.ntmps13
  go_wp2_with (fail)
  go_returns
  exact ⟨rfl, (Below.refl _ _).alloc (Nat.le_refl _) _⟩
theorem neq_lay (k s u d r : Int) (w : World) : (binOp .neq 23 (.agg #[.int .i64 k, .int .i64 s, .int .i64 u, .int .i64 d, .int .i64 r]) (.agg #[.int .i64 k, .int .i64 s, .int .i64 u, .int .i64 d, .int .i64 r])).run Try.prog w = .ok (.bool false) w := by
  simp [go_sem]
theorem carry {W W' : World} {b o : Nat} {v : Value} (h : Below W.heap.size W W') (hz : b < W.heap.size) (hc : W.cell? ⟨b, o, none⟩ = some v) : W'.cell? ⟨b, o, none⟩ = some v := (h.cell (p := ⟨b, o, none⟩) hz).trans hc
set_option maxRecDepth 100000 in
set_option maxHeartbeats 2000000 in
theorem walk_makes_no (k s u d r : Int) (A1 : Option Addr) (n1 c1 : Nat) (A2 : Option Addr) (n2 c2 : Nat) (A3 : Option Addr) (n3 c3 : Nat) (w : World) (hn : ¬ layOk k s u d r) :
    Calls Try.prog 3 #[.agg #[.int .i64 k, .int .i64 s, .int .i64 u, .int .i64 d, .int .i64 r], .slice A1 n1 c1, .slice A2 n2 c2, .slice A3 n3 c3] w fun e w' => e = .returned (.bool true) ∧ Below w.heap.size w w' := by
  have h1 : ∀ W, Calls Try.prog 11 #[.agg #[.int .i64 k, .int .i64 s, .int .i64 u, .int .i64 d, .int .i64 r]] W fun e w' => e = .returned (.tuple #[.pointer none, .int .i64 1]) ∧ Below W.heap.size W w' := fun W => (new_any k s u d r W).mono fun e w' hp => hp.2 hn
  have h2 : ∀ W, Calls Try.prog 12 #[.agg #[.int .i64 k, .int .i64 s, .int .i64 u, .int .i64 d, .int .i64 r]] W fun e w' => e = .returned (.tuple #[.pointer none, .bool false]) ∧ Below W.heap.size W w' := fun W => rnew_no k s u d r W hn
  replace h1 := Lib.hid h1
  replace h2 := Lib.hid h2
  clear hn
  go_enter Try.func3, Try.ntmps3
  go_wp2_with (fail)
  have hK := Bk.fresh w 23 #[.int .i64 k, .int .i64 s, .int .i64 u, .int .i64 d, .int .i64 r]
  have hB := (Below.refl w.heap.size w).alloc (Nat.le_refl _) (.cells #[.int .i64 k, .int .i64 s, .int .i64 u, .int .i64 d, .int .i64 r] 23)
  obtain ⟨V, hV⟩ : ∃ V, w.alloc (.cells #[.int .i64 k, .int .i64 s, .int .i64 u, .int .i64 d, .int .i64 r] 23) = V := ⟨_, rfl⟩
  rw [hV] at hK hB ⊢
  clear hV
  refine (shown_any V).mono ?_
  rintro e w1 ⟨rfl, hb⟩
  replace hK := hK.kept hb hK.lt
  replace hB := hB.trans (hb.mono hB.size)
  clear hb
  have d0 := hK.cell 0
  have d1 := hK.cell 1
  have d2 := hK.cell 2
  have d3 := hK.cell 3
  have d4 := hK.cell 4
  simp at d0 d1 d2 d3 d4
  go_wp2_with (fail)
  refine (h1.out w1).mono ?_
  rintro e w2 ⟨rfl, hb⟩
  replace hK := hK.kept hb hK.lt
  replace hB := hB.trans (hb.mono hB.size)
  clear hb d0 d1 d2 d3 d4
  have d0 := hK.cell 0
  have d1 := hK.cell 1
  have d2 := hK.cell 2
  have d3 := hK.cell 3
  have d4 := hK.cell 4
  simp at d0 d1 d2 d3 d4
  go_wp2_with (fail)
  refine (h2.out w2).mono ?_
  rintro e w3 ⟨rfl, hb⟩
  replace hB := hB.trans (hb.mono hB.size)
  clear hb d0 d1 d2 d3 d4 hK
  go_wp2_with (fail)
  go_returns
  exact ⟨rfl, hB⟩
/-- the two images, and what the law holds of the arguments -/
structure Mkd (w W : World) (p q rp rq : Nat) (L : Lay) : Prop where
  im : Im W p q L (List.replicate L.b6 0) false false
  rim : RIm W rp rq L (List.replicate L.b6 0) false false
  bel : Below w.heap.size w W
theorem Mkd.on {w W W' : World} {p q rp rq : Nat} {L : Lay} (h : Mkd w W p q rp rq L) (hb : Below W.heap.size W W') : Mkd w W' p q rp rq L := ⟨h.im.bel hb, h.rim.bel hb, h.bel.trans (hb.mono h.bel.size)⟩
theorem Mkd.dr {w W : World} {p q rp rq : Nat} {L : Lay} (h : Mkd w W p q rp rq L) (n : Nat) : Mkd w (W.drewN n) p q rp rq L := h.on ⟨rfl, rfl, rfl, Nat.le_refl _, fun _ _ => rfl⟩
set_option maxRecDepth 100000 in
set_option maxHeartbeats 4000000 in
theorem walk_makes_yes (L : Lay) (hL : L.ok) (A1 : Option Addr) (n1 c1 : Nat) (A2 : Option Addr) (n2 c2 : Nat) (A3 : Option Addr) (n3 c3 : Nat) (w : World) (h1 : Ints w A1 n1) (h2 : Ints w A2 n2) (h3 : Ints w A3 n3) :
    Calls Try.prog 3 #[.agg #[.int .i64 L.k, .int .i64 L.s, .int .i64 L.u, .int .i64 L.d, .int .i64 L.r], .slice A1 n1 c1, .slice A2 n2 c2, .slice A3 n3 c3] w fun e w' => e = .returned (.bool true) ∧ Below w.heap.size w w' := by
  have hnw := fun W => new_yes L hL W
  have hrn := fun W => rnew_yes L hL W
  have z1 : n1 ≤ 9223372036854775807 := h1.1
  have z2 : n2 ≤ 9223372036854775807 := h2.1
  have z3 : n3 ≤ 9223372036854775807 := h3.1
  unfold LV layV at hnw
  unfold layV at hrn
  replace hnw := Lib.hid hnw
  replace hrn := Lib.hid hrn
  replace h1 := Lib.hid h1
  replace h2 := Lib.hid h2
  replace h3 := Lib.hid h3
  replace hL := Lib.hid hL
  go_enter Try.func3, Try.ntmps3
  go_wp2_with (fail)
  have hK := Bk.fresh w 23 #[.int .i64 L.k, .int .i64 L.s, .int .i64 L.u, .int .i64 L.d, .int .i64 L.r]
  have hB := (Below.refl w.heap.size w).alloc (Nat.le_refl _) (.cells #[.int .i64 L.k, .int .i64 L.s, .int .i64 L.u, .int .i64 L.d, .int .i64 L.r] 23)
  obtain ⟨V, hV⟩ : ∃ V, w.alloc (.cells #[.int .i64 L.k, .int .i64 L.s, .int .i64 L.u, .int .i64 L.d, .int .i64 L.r] 23) = V := ⟨_, rfl⟩
  rw [hV] at hK hB ⊢
  clear hV
  obtain ⟨lb, hlb⟩ : ∃ lb, w.heap.size = lb := ⟨_, rfl⟩
  rw [hlb] at hK ⊢
  replace hlb := Lib.hid hlb
  refine (shown_any V).mono ?_
  rintro e w1 ⟨rfl, hb⟩
  replace hK := hK.kept hb hK.lt
  replace hB := hB.trans (hb.mono hB.size)
  clear hb
  have d0 := hK.cell 0
  have d1 := hK.cell 1
  have d2 := hK.cell 2
  have d3 := hK.cell 3
  have d4 := hK.cell 4
  simp at d0 d1 d2 d3 d4
  go_wp2_with (fail)
  refine (hnw.out w1).mono ?_
  rintro e w2 ⟨p, q, rfl, hI, hp, hq, hb⟩
  replace hK := hK.kept hb hK.lt
  replace hB := hB.trans (hb.mono hB.size)
  clear hb d0 d1 d2 d3 d4 hp hq
  have d0 := hK.cell 0
  have d1 := hK.cell 1
  have d2 := hK.cell 2
  have d3 := hK.cell 3
  have d4 := hK.cell 4
  simp at d0 d1 d2 d3 d4
  replace hI := Lib.hid hI
  go_wp2_with (fail)
  refine (hrn.out w2).mono ?_
  rintro e w3 ⟨rp, rq, rfl, hR, hp, hq, hb⟩
  replace hK := hK.kept hb hK.lt
  have hM : Mkd w w3 p q rp rq L := ⟨hI.out.bel hb, hR, hB.trans (hb.mono hB.size)⟩
  clear hb d0 d1 d2 d3 d4 hp hq hB hI hR
  have d0 := hK.cell 0
  have d1 := hK.cell 1
  have d2 := hK.cell 2
  have d3 := hK.cell 3
  have d4 := hK.cell 4
  simp at d0 d1 d2 d3 d4
  have hlz := hK.lt
  clear hK
  have e0 := hM.im.c0
  have e1 := hM.im.c1
  have e2 := hM.im.c2
  have e3 := hM.im.c3
  have e4 := hM.im.c4
  have e5 := hM.im.c14
  have hpz := hM.im.st.lt
  have hneq := neq_lay L.k L.s L.u L.d L.r
  replace hM := Lib.hid hM
  go_wp2_with (fail)
  go_region_held3 (fun w' => w'.cell? ⟨lb, 0, none⟩ = some (.int .i64 L.k) ∧ w'.cell? ⟨lb, 1, none⟩ = some (.int .i64 L.s) ∧ w'.cell? ⟨lb, 2, none⟩ = some (.int .i64 L.u) ∧ w'.cell? ⟨lb, 3, none⟩ = some (.int .i64 L.d) ∧ w'.cell? ⟨lb, 4, none⟩ = some (.int .i64 L.r) ∧ w'.cell? ⟨p, 0, none⟩ = some (.int .i64 L.k) ∧ w'.cell? ⟨p, 1, none⟩ = some (.int .i64 L.s) ∧ w'.cell? ⟨p, 2, none⟩ = some (.int .i64 L.u) ∧ w'.cell? ⟨p, 3, none⟩ = some (.int .i64 L.d) ∧ w'.cell? ⟨p, 4, none⟩ = some (.int .i64 L.r) ∧ w'.cell? ⟨p, 14, none⟩ = some (.bool false)) ((simp [go_sem, *]))
    (first
      | (go_at_call 13; (with_reducible refine Calls.mono (layout_c p L.k L.s L.u L.d L.r _ ?h0 ?h1 ?h2 ?h3 ?h4 ?h5) ?_); (case h0 => (first | omega | (simp only [World.size_drew]; omega))); (case h1 => simp [go_sem, *]); (case h2 => simp [go_sem, *]); (case h3 => simp [go_sem, *]); (case h4 => simp [go_sem, *]); (case h5 => simp [go_sem, *]); rintro e w1_ ⟨rfl, hb1⟩; have kS : w1_.cell? ⟨lb, 0, none⟩ = some (.int .i64 L.k) ∧ w1_.cell? ⟨lb, 1, none⟩ = some (.int .i64 L.s) ∧ w1_.cell? ⟨lb, 2, none⟩ = some (.int .i64 L.u) ∧ w1_.cell? ⟨lb, 3, none⟩ = some (.int .i64 L.d) ∧ w1_.cell? ⟨lb, 4, none⟩ = some (.int .i64 L.r) ∧ w1_.cell? ⟨p, 0, none⟩ = some (.int .i64 L.k) ∧ w1_.cell? ⟨p, 1, none⟩ = some (.int .i64 L.s) ∧ w1_.cell? ⟨p, 2, none⟩ = some (.int .i64 L.u) ∧ w1_.cell? ⟨p, 3, none⟩ = some (.int .i64 L.d) ∧ w1_.cell? ⟨p, 4, none⟩ = some (.int .i64 L.r) ∧ w1_.cell? ⟨p, 14, none⟩ = some (.bool false) := by (refine ⟨?_, ?_, ?_, ?_, ?_, ?_, ?_, ?_, ?_, ?_, ?_⟩ <;> (refine carry hb1 (by first | omega | (simp only [World.size_drew]; omega)) ?_; simp [go_sem, *])))
      | (go_at_call 14; (with_reducible refine Calls.mono (sealed_c p false _ ?k0) ?_); (case k0 => simp [go_sem, *]); rintro e w1_ ⟨rfl, rfl⟩))
  all_goals (go_wp2_with (fail))
  have hM2 : Mkd w w3.drew p q rp rq L := hM.out.dr 1
  replace hM := Lib.hid (hM2.on hb1)
  clear hM2
  clear kS hb1 d0 d1 d2 d3 d4 e0 e1 e2 e3 e4 e5 hpz hlz hneq
  go_loopw [14] (fun i wr => ∃ i' : Nat, i = .int .i64 i' ∧ i' ≤ n1 ∧ Mkd w wr p q rp rq L) (fun i _ => n1 - (intOf i).toNat)
  case atStart => exact ⟨0, rfl, Nat.zero_le _, hM.out⟩
  case round =>
    obtain ⟨i, rfl, hi, hMr⟩ := hrel
    clear hM
    by_cases hlt : i < n1
    · have i1 : (i : Int) < n1 := by omega
      have i0 : (0 : Int) ≤ i := by omega
      obtain ⟨ob, off, v, rfl, hob, hcell, hv⟩ := h1.out.2 i hlt
      have hcr := (hMr.bel.cell (p := ⟨ob, off + i, none⟩) hob).trans hcell
      replace hcell := Lib.hid hcell
      replace hMr := Lib.hid hMr
      go_wp2_with (fail)
      refine (span_any p q L _ false false v wr hMr.out.im).mono ?_
      rintro e u1 ⟨rfl, nn, rfl⟩
      replace hMr := Lib.hid (hMr.out.dr nn)
      replace hcr := (hMr.out.bel.cell (p := ⟨ob, off + i, none⟩) hob).trans hcell.out
      obtain ⟨u2, hu2⟩ : ∃ u2, wr.drewN nn = u2 := ⟨_, rfl⟩
      rw [hu2] at hMr hcr ⊢
      clear hu2
      go_wp2_with (fail)
      refine (rspan_any hMr.out.rim v).mono ?_
      rintro e u3 ⟨rfl, hb⟩
      replace hMr := Lib.hid (hMr.out.on hb)
      clear hb hcr
      go_wp2_with (fail)
      go_loopw [19] (fun j wq => ∃ j' : Nat, j = .int .i64 j' ∧ j' ≤ n3 ∧ Mkd w wq p q rp rq L) (fun j _ => n3 - (intOf j).toNat)
      case atStart => exact ⟨0, rfl, Nat.zero_le _, hMr.out⟩
      case round =>
        obtain ⟨j, rfl, hj, hMq⟩ := hrel
        clear hMr
        by_cases hlt3 : j < n3
        · have j1 : (j : Int) < n3 := by omega
          have j0 : (0 : Int) ≤ j := by omega
          obtain ⟨ob3, off3, v3, rfl, hob3, hcell3, hv3⟩ := h3.out.2 j hlt3
          have hc1 := (hMq.bel.cell (p := ⟨ob, off + i, none⟩) hob).trans hcell.out
          have hc3 := (hMq.bel.cell (p := ⟨ob3, off3 + j, none⟩) hob3).trans hcell3
          replace hcell3 := Lib.hid hcell3
          have q1 := Lib.hid (fun n => may_any p q L _ false false v3 v (wr.drewN n) (hMq.dr n).im)
          have q2 := Lib.hid (fun n => rmay_any (hMq.dr n).rim v3 v)
          replace hMq := Lib.hid hMq
          go_wp2_with (fail)
          go_quiet ((first | (go_at_call 17; exact Calls.quiet_of_same (q1.out _)) | (go_at_call 18; exact Calls.quiet_of_same (q2.out _))))
          go_wp2_with (fail)
          exact ⟨⟨j + 1, by go_num, by omega, hMq.out.dr _⟩, by simp [intOf]; omega⟩
        · replace hMq := Lib.hid hMq
          go_wp2_with (fail)
          exact ⟨⟨i + 1, by go_num, by omega, hMq.out⟩, by simp [intOf]; omega⟩
    · replace hMr := Lib.hid hMr
      go_wp2_with (fail)
      go_loopw [20] (fun j wq => ∃ j' : Nat, j = .int .i64 j' ∧ j' ≤ n2 ∧ Mkd w wq p q rp rq L) (fun j _ => n2 - (intOf j).toNat)
      case atStart => exact ⟨0, rfl, Nat.zero_le _, hMr.out⟩
      case round =>
        obtain ⟨j, rfl, hj, hMq⟩ := hrel
        clear hMr
        by_cases hlt2 : j < n2
        · have j1 : (j : Int) < n2 := by omega
          have j0 : (0 : Int) ≤ j := by omega
          obtain ⟨ob2, off2, v2, rfl, hob2, hcell2, hv2⟩ := h2.out.2 j hlt2
          have hc2 := (hMq.bel.cell (p := ⟨ob2, off2 + j, none⟩) hob2).trans hcell2
          have hM1 : Mkd w wr.drew p q rp rq L := hMq.dr 1
          have q1 := region_any p q L _ false false v2 wr.drew hM1.im
          have q2 := rregion_any hM1.rim v2
          generalize L.reg v2 = rv at *
          replace q1 := Lib.hid q1
          replace q2 := Lib.hid q2
          replace hM1 := Lib.hid hM1
          replace hcell2 := Lib.hid hcell2
          clear hMq
          go_wp2_with (fail)
          go_still_tail 11, (by kernel_rfl)
          still_call q1.out
          repeat still_step
          refine wpStill_nil ?_
          change wpList _ _ _ _ _ wr.drew
          go_wp2_with (fail)
          refine q2.out.mono ?_
          rintro e u3 ⟨rfl, hb⟩
          replace hM1 := Lib.hid (hM1.out.on hb)
          clear hb q1 q2 hc2
          go_wp2_with (fail)
          exact ⟨⟨j + 1, by go_num, by omega, hM1.out⟩, by simp [intOf]; omega⟩
        · replace hMq := Lib.hid hMq
          go_wp2_with (fail)
          go_returns
          exact ⟨rfl, hMq.out.bel⟩
theorem walk_makes (k s u d r : Int) (A1 : Option Addr) (n1 c1 : Nat) (A2 : Option Addr) (n2 c2 : Nat) (A3 : Option Addr) (n3 c3 : Nat) (w : World) (_ : -9223372036854775808 ≤ k ∧ k ≤ 9223372036854775807) (_ : -9223372036854775808 ≤ s ∧ s ≤ 9223372036854775807) (_ : -9223372036854775808 ≤ u ∧ u ≤ 9223372036854775807) (_ : -9223372036854775808 ≤ d ∧ d ≤ 9223372036854775807) (_ : -9223372036854775808 ≤ r ∧ r ≤ 9223372036854775807) (h1 : Ints w A1 n1) (h2 : Ints w A2 n2) (h3 : Ints w A3 n3) :
    Calls Try.prog 3 #[.agg #[.int .i64 k, .int .i64 s, .int .i64 u, .int .i64 d, .int .i64 r], .slice A1 n1 c1, .slice A2 n2 c2, .slice A3 n3 c3] w fun e w' => e = .returned (.bool true) ∧ Below w.heap.size w w' := by
  by_cases hl : layOk k s u d r
  · have g := hl
    unfold layOk sizeOk at g
    obtain ⟨k, rfl⟩ := Int.eq_ofNat_of_zero_le (show 0 ≤ k by omega)
    obtain ⟨s, rfl⟩ := Int.eq_ofNat_of_zero_le (show 0 ≤ s by omega)
    obtain ⟨u, rfl⟩ := Int.eq_ofNat_of_zero_le (show 0 ≤ u by omega)
    obtain ⟨d, rfl⟩ := Int.eq_ofNat_of_zero_le (show 0 ≤ d by omega)
    obtain ⟨r, rfl⟩ := Int.eq_ofNat_of_zero_le (show 0 ≤ r by omega)
    exact walk_makes_yes ⟨k, s, u, d, r⟩ (lay_ok (L := ⟨k, s, u, d, r⟩) hl) A1 n1 c1 A2 n2 c2 A3 n3 c3 w h1 h2 h3
  · exact walk_makes_no k s u d r A1 n1 c1 A2 n2 c2 A3 n3 c3 w hl
end Go.Proofs.Yteldbkdfphkdbaa
