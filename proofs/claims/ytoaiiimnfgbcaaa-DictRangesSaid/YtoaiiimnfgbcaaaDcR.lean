import Derived.Test.YtoaiiimnfgbcaaaDcQ
namespace Go.Proofs.Ytoaiiimnfgbcaaa
open Go.RowKit Go.Shelf
attribute [local go_sem] Oper.semAt_some
attribute [local go_sem high] run_all_nil
set_option linter.unusedVariables false
set_option linter.unusedSimpArgs false
/-! DictRanges -/
set_option maxHeartbeats 8000000 in
set_option maxRecDepth 100000 in
theorem walk_ranges (z : Int) (A : Option Addr) (n c : Nat) (st : Int) (w : World) (hz : inI z) (hS : Strs w A n) (hst : inI st) :
    Calls Try.prog 4 #[.int .i64 z, .slice A n c, .int .i64 st] w fun e w' => e = .returned (.bool true) ∧ Below w.heap.size w w' := by
  have hlay := fun w1 => layout8_any z w1 hz
  have hnew := fun w1 => new8 z w1
  have hok := layOf8_ok z
  obtain ⟨L, hL⟩ : ∃ L, layOf8 z = L := ⟨_, rfl⟩
  simp only [hL] at hlay hnew hok
  clear hL
  unfold LV layV at hlay hnew
  replace hlay := Lib.hid hlay
  replace hnew := Lib.hid hnew
  replace hok := Lib.hid hok
  replace hS := Lib.hid hS
  replace hst := Lib.hid hst
  clear hz
  refine (callsIn_wide (n := 8)).1 ?_
  refine callsIn_of_wp_marks Try.func4 rfl trivial ?_ rfl
  simp only [Try.ntmps4, List.size_toArray, List.length_cons, List.length_nil, Nat.reduceAdd, Nat.reduceSub, Array.replicate_succ, Array.replicate_zero, List.push_toArray, List.append_toArray, List.nil_append, List.cons_append]
  gi_wp2_with (refine ⟨trivial, ?_⟩; gi_at_call 7; refine (callsIn_wide.2 (shown_any _)).mono ?_; rintro e w1 ⟨rfl, hB⟩)
  have a1 := Bk.fresh w 3 #[.int .i64 st]
  have a2 := Bk.fresh (w.alloc (.cells #[.int .i64 st] 3)) 4 #[.bool false]
  have hB0 : Below w.heap.size w ((w.alloc (.cells #[.int .i64 st] 3)).alloc (.cells #[.bool false] 4)) := ((Below.refl _ _).alloc (Nat.le_refl _) _).alloc (by simp) _
  have a1 := (a1.past (.cells #[.bool false] 4)).kept hB (by simp; omega)
  have a2 := a2.kept hB (by simp)
  rw [World.size_alloc] at a2
  have hBw := hB0.trans (hB.mono hB0.size)
  obtain ⟨sb, hsb⟩ : ∃ sb, w.heap.size = sb := ⟨_, rfl⟩
  rw [hsb] at a1 a2 ⊢
  have hsw : w.heap.size ≤ sb := Nat.le_of_eq hsb
  clear hB hB0
  refine ⟨trivial, ?_⟩
  refine (callsIn_wide.2 (hlay.out _)).mono ?_
  rintro e w2 ⟨rfl, hO⟩
  have a1 := a1.kept hO a1.lt
  have a2 := a2.kept hO a2.lt
  replace hBw := hBw.trans (hO.mono hBw.size)
  clear hO
  gi_wp2_with (fail)
  refine ⟨trivial, ?_⟩
  refine (callsIn_wide.2 (hnew.out _)).mono ?_
  rintro e w3 ⟨p, b, rfl, hI, z1, z2, hO⟩
  have a1 := a1.kept hO a1.lt
  have a2 := a2.kept hO a2.lt
  have z1 : w.heap.size ≤ p := Nat.le_trans hBw.size z1
  have z2 : w.heap.size ≤ b := Nat.le_trans hBw.size z2
  replace hBw := hBw.trans (hO.mono hBw.size)
  clear hO
  obtain ⟨B, hBB⟩ : ∃ B, List.replicate L.b6 (0 : UInt8) = B := ⟨_, rfl⟩
  rw [hBB] at hI
  clear hBB
  gi_wp2_with (fail)
  refine ⟨trivial, ?_⟩
  refine (callsIn_wide.2 (dnew_any hI 3 (.inr rfl))).mono ?_
  rintro e w4 ⟨d, hd, rfl, D, hO⟩
  have a1 := a1.kept hO a1.lt
  have a2 := a2.kept hO a2.lt
  have z3 : w.heap.size ≤ d := Nat.le_trans hBw.size hd
  replace hBw := hBw.trans (hO.mono hBw.size)
  clear hO hd hI
  gi_wp2_with (fail)
  have b3 : (L.beg 3 + 8) = (L.beg 3 + 8) := rfl
  obtain ⟨f, hf⟩ : ∃ f, L.beg 3 + 8 = f := ⟨_, rfl⟩
  obtain ⟨y, hy⟩ : ∃ y, L.beg (3 + 1) = y := ⟨_, rfl⟩
  rw [hf, hy] at D
  have hf0 : 0 < f := by omega
  have a3 := Bk.fresh w4 30 #[.pointer (some ⟨d, 0, none⟩)]
  have hB5 : Below w4.heap.size w4 (w4.alloc (.cells #[.pointer (some ⟨d, 0, none⟩)] 30)) := (Below.refl _ _).alloc (Nat.le_refl _) _
  have D4 := D.bel hB5
  have hdw : w.heap.size ≤ w4.heap.size := hBw.size
  obtain ⟨db, hdb⟩ : ∃ db, w4.heap.size = db := ⟨_, rfl⟩
  have R4 : Rg w sb (sb + 1) db st d (w4.alloc (.cells #[.pointer (some ⟨d, 0, none⟩)] 30)) := ⟨a1.kept hB5 a1.lt, a2.kept hB5 a2.lt, by rw [hdb] at a3; exact a3, hBw.trans (hB5.mono hBw.size)⟩
  obtain ⟨W4, hW4⟩ : ∃ W4, w4.alloc (.cells #[.pointer (some ⟨d, 0, none⟩)] 30) = W4 := ⟨_, rfl⟩
  rw [hW4] at D4 R4 ⊢
  rw [hdb] at hdw ⊢
  clear hW4 hdb a1 a2 a3 D hB5 hBw b3 hy hlay hnew hok
  gi_loopw [11] (fun vi wr => ∃ (k : Nat), vi = .int .i64 k ∧ k ≤ n ∧ Hid (∃ (h lt : Nat) (Bc : List UInt8) (X : List Wd), k ≤ 12 ∧ X.length ≤ k ∧ Dc wr d p b L 3 f y Bc false false h lt ∧ Chain Bc f y h lt X ∧ Rg w sb (sb + 1) db st d wr)) (fun vi _ => 12 - (intOf vi).toNat)
  case atStart => exact ⟨0, rfl, by omega, Lib.hid ⟨_, _, _, [], by omega, by simp, D4, rfl, R4⟩⟩
  case round =>
    obtain ⟨k, rfl, hk, hR⟩ := hrel
    obtain ⟨h, lt, Bc, X, hk12, hXk, D, hC, R⟩ := hR.out
    clear hR
    have nxt := fun i => ((hS.out).2 i)
    by_cases hgo : k < n ∧ k < 12
    · obtain ⟨g1, g2⟩ := hgo
      have g3 : (k : Int) < 12 := by omega
      have g4 : (k : Int) < n := by omega
      obtain ⟨nb, no, nm, rfl, hnb, hnc, hns⟩ := nxt k g1
      have hsc := (R.bel.cell (p := ⟨nb, no + k, none⟩) hnb).trans hnc
      have s0 := R.dbx.cell 0
      simp at s0
      gi_wp2_with (fail)
      have hlt := chain_lt hf0 D.lo hC
      have hcr := cr_dc D.draw hf0 hlt nm (Nat.le_trans hns (by decide))
      replace hcr := Lib.hid hcr
      replace D := Lib.hid D
      replace R := Lib.hid R
      replace hC := Lib.hid hC
      refine wpIn_wide.2 ?_
      go_region_held3 (fun w' => w'.cell? ⟨db, 0, none⟩ = some (.pointer (some ⟨d, 0, none⟩)) ∧ w'.cell? ⟨nb, no + k, none⟩ = some (.string nm)) (go_keep)
        ((go_at_call 14; (with_reducible refine Calls.mono hcr.out ?_); rintro e w1_ ⟨⟨ve, rfl⟩, hD2, hO⟩; have R2 := R.out.draws 1 |>.onb D.out.draw hO z2 z3; have kS : w1_.cell? ⟨db, 0, none⟩ = some (.pointer (some ⟨d, 0, none⟩)) ∧ w1_.cell? ⟨nb, no + k, none⟩ = some (.string nm) := ⟨R2.dbx.cell 0, (R2.bel.cell (p := ⟨nb, no + k, none⟩) hnb).trans hnc⟩; replace hD2 := Lib.hid hD2; replace hO := Lib.hid hO; replace R2 := Lib.hid R2))
      obtain ⟨w5, hw5⟩ : ∃ w5, w1_ = w5 := ⟨_, rfl⟩
      rw [hw5] at hD2 R2 ⊢
      rename_i hHeld_
      clear hHeld_ hw5 kS hcr s0 hsc
      gi_wp2_with (fail)
      obtain ⟨B', h', l', D5, hf5, hX5⟩ := hD2.out
      obtain ⟨X', hC', hX'⟩ := hX5 X hC.out
      exact ⟨⟨k + 1, rfl, by omega, Lib.hid ⟨h', l', B', X', by omega, by omega, D5, hC', R2.out⟩⟩, by simp [intOf]; omega⟩
    · skip
      have hX12 : X.length ≤ 12 := by omega
      have htest2 : (¬ (k : Int) < n) ∨ ((k : Int) < n ∧ ¬ (k : Int) < 12) := by
        by_cases h1 : (k : Int) < n
        · exact .inr ⟨h1, by omega⟩
        · exact .inl h1
      clear nxt hgo hk12 hXk hk
      have s0 := R.dbx.cell 0
      simp at s0
      rcases htest2 with ht1 | ⟨ht1, ht2⟩
      all_goals
        gi_wp2_with (fail)
        clear ht1
        try clear ht2
        refine ⟨trivial, ?_⟩
        refine (callsIn_wide.2 (all_any d _)).mono ?_
        rintro e w5 ⟨rfl, hw5⟩
        have a2 := Bk.fresh wr 30 #[.pointer (some ⟨d, 0, none⟩)]
        have hB5 : Below wr.heap.size wr w5 := by rw [hw5]; exact (Below.refl _ _).alloc (Nat.le_refl _) _
        rw [← hw5] at a2
        have D := D.bel hB5
        have R := R.kept hB5
        obtain ⟨ev, hev⟩ : ∃ ev, wr.heap.size = ev := ⟨_, rfl⟩
        rw [hev] at a2 ⊢
        clear hw5 hB5 s0 hev
        gi_wp2_with (fail)
        have n0 := Bk.fresh w5 3 #[.int .i64 0]
        have hB6 : Below w5.heap.size w5 (w5.alloc (.cells #[.int .i64 0] 3)) := (Below.refl _ _).alloc (Nat.le_refl _) _
        have hnz : w.heap.size ≤ w5.heap.size := R.bel.size
        have l1 := R.stp.lt
        have l2 := R.res.lt
        have l3 := R.dbx.lt
        have l4 := a2.lt
        have D := D.bel hB6
        have R := R.kept hB6
        have a2 := a2.kept hB6 a2.lt
        obtain ⟨nx, hnx⟩ : ∃ nx, w5.heap.size = nx := ⟨_, rfl⟩
        obtain ⟨w6, hw6⟩ : ∃ w6, w5.alloc (.cells #[.int .i64 0] 3) = w6 := ⟨_, rfl⟩
        rw [hnx] at n0 hnz l1 l2 l3 l4 ⊢
        rw [hw6] at n0 D R a2 ⊢
        clear hnx hw6 hB6
        gi_wp2_with (fail)
        have hwk := chain_walkP hf0 hC
        have hnx6 := n0.lt
        refine range_skip 8 66 ev (by decide) (fun i => i = nx) (fun i e => by rw [e]; exact hnx6) rfl rfl D a2
          (fun pre W => ((Bk W nx 3 #[.int .i64 (pre.length : Nat)] ∧ Rg w sb (sb + 1) db st d W) ∧ (Dc W d p b L 3 f y Bc false false h lt ∧ Bk W ev 30 #[.pointer (some ⟨d, 0, none⟩)])) ∧ w6.heap.size ≤ W.heap.size) (fun _ _ _ => False)
          (OwnFrom.and (OwnFrom.and (OwnFrom.and (fun s A B row hs hg hr => own_bk _ _ _ s A B row hs hg (fun r e => (hr r e).2)) (Rg.own _ R.bel.size)) (OwnFrom.and (Own.from (own_dc _ _ _ _ _ _ _ _ _ _ _ _) _) (Own.from (own_bk _ _ _) _))) (own_size _ _)) (fun c s A B row hs hg hr => hs) ⟨⟨⟨n0, R⟩, D, a2⟩, Nat.le_refl _⟩ ?body ?done ?stop
        case stop => rintro D' c pre W hD hpre hf hW; exact hf.elim
        case body =>
          rintro l' pre x W hl hlr ⟨⟨⟨n1, R1⟩, D1, a3⟩, hz⟩ hlt
          rw [hwk] at hlt
          have e1 : IntKind.i64.wrap (((pre.length : Nat) : Int) + 1) = ((pre.length + 1 : Nat) : Int) := by rw [IntKind.wrap_i64]; omega
          have hle : ¬ (100 : Int) < ((pre.length + 1 : Nat) : Int) := by omega
          have c0 := n1.cell 0
          simp at c0
          have c1 := n1.free 0
          obtain ⟨m, hm⟩ : ∃ m, pre.length = m := ⟨_, rfl⟩
          rw [hm] at c0 e1 hle
          simp only [wdV, List.setIfInBounds_toArray, List.set_cons_zero, List.set_cons_succ]
          gi_wp2_with (fail)
          exact ⟨(KeepsOthers.setCell _ _ _).from _, Kc.set (q := ⟨nx, 0, none⟩) _ rfl, ⟨⟨by rw [List.length_append, hm]; exact n1.put 0 _, R1.put hnz (by omega) (by omega) (by omega) _⟩, D1.far (q := ⟨nx, 0, none⟩) (n1.ne D1.im.st (by decide)).symm (n1.ne D1.im.by_ (by decide)).symm (n1.ne D1.bk (by decide)).symm _, a3.other (p := ⟨nx, 0, none⟩) (by show ev ≠ nx; omega) _⟩, by rw [World.size_setCell]; exact hz⟩
        case done =>
          rintro D1 xs W hD1 hxs ⟨⟨⟨n1, R⟩, D, a2⟩, hz⟩ hW
          have hxl : xs.length = X.length := by rw [← hwk, ← hxs, List.length_map]
          rw [hxl] at n1
          have k0 := Bk.fresh W 3 #[.int .i64 0]
          have hB7 : Below W.heap.size W (W.alloc (.cells #[.int .i64 0] 3)) := (Below.refl _ _).alloc (Nat.le_refl _) _
          have hW7 := (hB7.block D1 (Array.getElem?_eq_some_iff.1 hW).1).trans hW
          have hDW := (Array.getElem?_eq_some_iff.1 hW).1
          have D := D.bel hB7
          have R := R.kept hB7
          have a2 := a2.kept hB7 a2.lt
          have n1 := n1.kept hB7 n1.lt
          have hkz : w.heap.size ≤ W.heap.size := by omega
          have hkn : nx < W.heap.size := by omega
          gi_wp2_with (fail)
          obtain ⟨kx, hkx⟩ : ∃ kx, W.heap.size = kx := ⟨_, rfl⟩
          obtain ⟨w7, hw7⟩ : ∃ w7, W.alloc (.cells #[.int .i64 0] 3) = w7 := ⟨_, rfl⟩
          rw [hkx] at k0 hkz hkn hDW ⊢
          rw [hw7] at k0 D R a2 n1 hW7 ⊢
          have l5 := k0.lt
          have l6 : w6.heap.size ≤ kx := by omega
          clear hB7 hw7 hxs hW hz
          obtain ⟨pk, hpk⟩ : ∃ pk, pickN st (20 : Int).toNat = pk := ⟨_, rfl⟩
          have hpi : ∀ W : World, Calls Try.prog 18 #[.int .i64 st, .int .i64 20] W fun e w' => e = .returned (.int .i64 (pk : Nat)) ∧ w' = W := fun W => by rw [← hpk]; exact pick_any st 20 W hst.out.1 hst.out.2 (by decide) (by decide)
          have hpk20 : Hid (pk < 20) := Lib.hid (by rw [← hpk]; exact pickN_lt _ _ (by decide))
          clear hpk
          replace hpi := Lib.hid hpi
          have hS7 : Bxs w sb (sb + 1) db st d kx nx ev D1 w7.heap.size X.length ([] : List NW).length w7 := ⟨k0, R, n1, a2, hW7, Nat.le_refl _, by omega⟩
          refine range_skip 8 72 ev (by decide) (fun i => i = b ∨ i = d ∨ i = kx) (fun i e => by rcases e with rfl | rfl | rfl; exact D.im.by_.lt; exact D.bk.lt; exact l5) rfl rfl D a2
            (fun pre W => (Bxs w sb (sb + 1) db st d kx nx ev D1 w7.heap.size X.length pre.length W ∧ Stands d p b L f y X pre W) ∧ pre.length ≤ pk)
            (fun c pre W => (c = .exit 4 ∧ pre.length = pk + 1) ∧ (Bxs w sb (sb + 1) db st d kx nx ev D1 w7.heap.size X.length pre.length W ∧ Stands d p b L f y X pre W))
            (OwnFrom.and (OwnFrom.and (Bxs.own _ (Nat.le_refl _)) (own_stands _ _ _ _ _ _ _ _)) (ownFrom_pure _ _)) (fun c => OwnFrom.and (ownFrom_pure _ _) (OwnFrom.and (Bxs.own _ (Nat.le_refl _)) (own_stands _ _ _ _ _ _ _ _)))
            ⟨⟨hS7, Bc, h, lt, D, chain_lt hf0 D.lo hC, fun _ => hC, fun e => absurd rfl e⟩, by simp⟩ ?body2 ?done2 ?stop2
          case body2 =>
            rintro l2' pre x W hl hlr ⟨⟨S, B1, h1, t1, D9, ht1, hc1, hc2⟩, hpl⟩ hlt
            rw [hwk] at hlt
            simp only [wdV, List.setIfInBounds_toArray, List.set_cons_zero, List.set_cons_succ]
            have c0 := S.k.cell 0
            simp at c0
            have p0 := S.r.dbx.cell 0
            simp at p0
            clear hS7 hc1
            cases pre with
            | nil =>
              simp only [List.length_nil] at c0
              gi_wp2_with (fail)
              refine ⟨trivial, ?_⟩
              refine (CallsIn.inRound l2' (callsIn_wide.2 (flag_0 D9))).mono ?_
              rintro e wa ⟨rfl, D10, O10⟩
              have S10 := S.onb D9 O10 z2 z3
              have K10 := O10.others D9
              have Q10 : Kc (fun i => i = b ∨ i = d ∨ i = kx) W wa := O10.kc (.inl rfl) (.inr (.inl rfl))
              have p0 := S10.r.dbx.cell 0
              simp at p0
              clear c0
              gi_wp2_with (fail)
              refine ⟨trivial, ?_⟩
              refine (CallsIn.inRound l2' (callsIn_wide.2 (cr_dc D10 hf0 ht1 nmMore (by decide)))).mono ?_
              rintro e wb ⟨⟨ve, rfl⟩, ⟨B11, h11, t11, D11, hf11, _⟩, O11⟩
              have S11 := S10.onb D10 O11 z2 z3
              have K11 := K10.trans (O11.others D10)
              have Q11 := Q10.t (O11.kc (X := fun i => i = b ∨ i = d ∨ i = kx) (.inl rfl) (.inr (.inl rfl)))
              have p0 := S11.r.dbx.cell 0
              simp at p0
              have hbk : backOk f y (h11 : Int) 0 := ⟨by omega, by have := D11.hi; omega, .inl rfl⟩
              gi_wp2_with (fail)
              gi_region_with (first | (refine ⟨trivial, ?_⟩; gi_at_call 12; refine (CallsIn.inRound l2' (callsIn_wide.2 (here_any D11.draw))).mono ?_; rintro e w' ⟨rfl, rfl⟩) | (refine ⟨trivial, ?_⟩; gi_at_call 17; refine (CallsIn.inRound l2' (callsIn_wide.2 (back_yes D11.draw h11 0 hbk))).mono ?_; rintro e w' ⟨rfl, D12, O12⟩))
              all_goals
                simp only [Int.toNat_natCast, Int.toNat_zero] at D12
                have S12 := (S11.draws 1).onb D11.draw O12 z2 z3
                have K12 := (K11.trans (⟨Nat.le_refl _, fun _ _ hk _ => hk⟩ : KeepsOthers wb wb.drew)).trans (O12.others D11.draw)
                have Q12 := (Q11.t (⟨Nat.le_refl _, fun _ _ hk _ _ => hk⟩ : Kc (fun i => i = b ∨ i = d ∨ i = kx) wb wb.drew)).t (O12.kc (X := fun i => i = b ∨ i = d ∨ i = kx) (.inl rfl) (.inr (.inl rfl)))
                have l0 := Bk.fresh w' 3 #[.int .i64 0]
                have hB13 : Below w'.heap.size w' (w'.alloc (.cells #[.int .i64 0] 3)) := (Below.refl _ _).alloc (Nat.le_refl _) _
                have S13 := S12.kept hB13
                have D13 := D12.bel hB13
                have K13 := K12.trans (below_others hB13)
                have Q13 := Q12.t (Kc.of_below (X := fun i => i = b ∨ i = d ∨ i = kx) hB13)
                have p0 := S13.r.dbx.cell 0
                simp at p0
                clear S S10 S11 S12 K10 K11 K12 Q10 Q11 Q12 D10 D11 D12 O10 O11 O12 hB13
                gi_wp2_with (fail)
                obtain ⟨lx, hlx⟩ : ∃ lx, w'.heap.size = lx := ⟨_, rfl⟩
                obtain ⟨w8, hw8⟩ : ∃ w8, w'.alloc (.cells #[.int .i64 0] 3) = w8 := ⟨_, rfl⟩
                rw [hlx] at l0 ⊢
                rw [hw8] at l0 S13 D13 K13 Q13 p0 ⊢
                clear hw8 hlx
                refine ⟨trivial, ?_⟩
                refine (CallsIn.inRound l2' (callsIn_wide.2 (all_any d _))).mono ?_
                rintro e w9 ⟨rfl, hw9⟩
                have v0 := Bk.fresh w8 30 #[.pointer (some ⟨d, 0, none⟩)]
                have hB14 : Below w8.heap.size w8 w9 := by rw [hw9]; exact (Below.refl _ _).alloc (Nat.le_refl _) _
                rw [← hw9] at v0
                have S14 := S13.kept hB14
                have D14 := D13.bel hB14
                have l0 := l0.kept hB14 l0.lt
                have K14 := K13.trans (below_others hB14)
                have Q14 := Q13.t (Kc.of_below (X := fun i => i = b ∨ i = d ∨ i = kx) hB14)
                obtain ⟨v9, hv9⟩ : ∃ v9, w8.heap.size = v9 := ⟨_, rfl⟩
                rw [hv9] at v0 ⊢
                clear hw9 hv9 hB14 S13 D13 K13 Q13 p0
                gi_wp2_with (fail)
                have hz14 := S14.z
                refine range_none 6 85 v9 (by decide) (hlr.imp fun r hr => K14.same _ _ hr rfl) rfl rfl D14 v0 (walk_nil _ _ _ hf0)
                  (fun V => (Bxs w sb (sb + 1) db st d kx nx ev D1 w7.heap.size X.length 0 V ∧ Dc V d p b L 3 f y B11 false false h11 0) ∧ (Bk V lx 3 #[.int .i64 0] ∧ KeepsFrom w7.heap.size W V) ∧ Kc (fun i => i = b ∨ i = d ∨ i = kx) W V)
                  (OwnFrom.and (OwnFrom.and (Bxs.own' _ hz14) (Own.from (own_dc _ _ _ _ _ _ _ _ _ _ _ _) _)) (OwnFrom.and (OwnFrom.and (Own.from (own_bk _ _ _) _) (ownFrom_keepsFrom (Nat.le_trans (Nat.le_refl _) K14.size))) (own_kc _ _ _)))
                  ⟨⟨S14, D14⟩, ⟨l0, K14.from _⟩, Q14⟩ ?_
                rintro V ⟨⟨S15, D15⟩, ⟨l15, K15⟩, Q15⟩
                clear S14 D14 K14 Q14 l0 v0
                have l16 := l15.cell 0
                simp at l16
                have c0 := S15.k.cell 0
                simp at c0
                have c1 := S15.k.free 0
                have st15 : Stands d p b L f y X [x] V := ⟨B11, h11, 0, D15, by omega, fun e => absurd e (by simp), fun _ => rfl⟩
                have hpre : (([] : List NW) ++ [x]).length = 1 := rfl
                have hpre2 : [x].length = 1 := rfl
                replace hpre := Lib.hid hpre
                replace hpre2 := Lib.hid hpre2
                gi_wp2_with (fail)
                have S16 := S15.put 1
                have st16 := st15.put S15.k (.int .i64 ((1 : Nat) : Int))
                have K16 := K15.trans ((KeepsOthers.setCell V ⟨kx, 0, none⟩ (.int .i64 ((1 : Nat) : Int))).from w7.heap.size)
                have Q16 := Q15.t (Kc.set (X := fun i => i = b ∨ i = d ∨ i = kx) (W := V) (q := ⟨kx, 0, none⟩) (.int .i64 ((1 : Nat) : Int)) (.inr (.inr rfl)))
                obtain ⟨V2, hV2⟩ : ∃ V2, V.setCell ⟨kx, 0, none⟩ (.int .i64 1) = V2 := ⟨_, rfl⟩
                have hV3 : V.setCell ⟨kx, 0, none⟩ (.int .i64 ((1 : Nat) : Int)) = V2 := hV2
                rw [hV3] at S16 st16 K16 Q16
                rw [hV2]
                clear hV2 hV3 S15 st15 K15 Q15 c0 c1
                have c0 := S16.k.cell 0
                simp at c0
                have st0 := S16.r.stp.cell 0
                simp at st0
                refine region_round rfl (by kernel_rfl) (by kernel_rfl) (by kernel_rfl) ?_
                repeat (gi_big_quiet_step (fail))
                refine wpQuietIn_step (fun _ _ _ _ => trivial) (fun K hK => ?_)
                go_simp
                apply Exists.intro
                refine ⟨fun _ => ?_, hK _ ?_⟩
                · exact CallsIn.quiet_of_same (callsIn_wide.2 (hpi.out _))
                clear hK K
                repeat (gi_big_quiet_step (fail))
                refine wpQuietIn_nil ?_
                rintro _ ⟨nq, rfl⟩
                have S17 := S16.draws nq
                have st17 := st16.draws nq
                have K17 := keepsFrom_draws K16 nq
                have Q17 := Q16.draws nq
                clear S16 st16 K16 Q16 c0 st0
                replace S17 := Lib.hid S17
                replace st17 := Lib.hid st17
                replace K17 := Lib.hid K17
                replace Q17 := Lib.hid Q17
                by_cases hgt : pk < 1
                · have hgI : ((pk : Nat) : Int) < 1 := by omega
                  gi_wp2_with (fail)
                  exact ⟨K17.out, ⟨rfl, by first | (rw [hpre.out]; omega) | (rw [hpre2.out]; omega) | (simp; omega)⟩, by first | (rw [hpre.out]; exact S17.out) | (rw [hpre2.out]; exact S17.out) | exact S17.out, st17.out⟩
                · have hgI : ¬ ((pk : Nat) : Int) < 1 := by omega
                  gi_wp2_with (fail)
                  exact ⟨K17.out, Q17.out, ⟨by first | (rw [hpre.out]; exact S17.out) | (rw [hpre2.out]; exact S17.out) | exact S17.out, st17.out⟩, by first | (rw [hpre.out]; omega) | (rw [hpre2.out]; omega) | (simp; omega)⟩
            | cons x0 pre =>
              clear c0
              have t0 : t1 = 0 := hc2 (by simp)
              subst t0
              have st15 : Stands d p b L f y X (x0 :: pre ++ [x]) W := ⟨B1, h1, 0, D9, ht1, fun e => absurd e (by simp), fun _ => rfl⟩
              obtain ⟨m, hm⟩ : ∃ m, (x0 :: pre).length = m := ⟨_, rfl⟩
              have hm1 : 1 ≤ m := by rw [← hm]; simp
              have hpre : (x0 :: pre ++ [x]).length = m + 1 := by rw [← hm]; simp
              have hpre2 : (x0 :: (pre ++ [x])).length = m + 1 := by rw [← hm]; simp
              replace hpre := Lib.hid hpre
              replace hpre2 := Lib.hid hpre2
              have S15 := S
              rw [hm] at S15 hpl
              have c0 := S15.k.cell 0
              simp at c0
              have c1 := S15.k.free 0
              have hm0 : ((m : Int) == 0) = false := by simp; omega
              have hm00 : ¬ (m : Int) = 0 := by omega
              have e1 : IntKind.i64.wrap ((m : Int) + 1) = ((m + 1 : Nat) : Int) := by rw [IntKind.wrap_i64]; omega
              have K15 := KeepsFrom.refl w7.heap.size W
              have Q15 := Kc.refl (X := fun i => i = b ∨ i = d ∨ i = kx) W
              clear S D9 p0 hc2 hm
              gi_wp2_with (fail)
              have S16 := S15.put (m + 1)
              have st16 := st15.put S15.k (.int .i64 (((m + 1) : Nat) : Int))
              have K16 := K15.trans ((KeepsOthers.setCell W ⟨kx, 0, none⟩ (.int .i64 (((m + 1) : Nat) : Int))).from w7.heap.size)
              have Q16 := Q15.t (Kc.set (X := fun i => i = b ∨ i = d ∨ i = kx) (W := W) (q := ⟨kx, 0, none⟩) (.int .i64 (((m + 1) : Nat) : Int)) (.inr (.inr rfl)))
              obtain ⟨V2, hV2⟩ : ∃ V2, W.setCell ⟨kx, 0, none⟩ (.int .i64 ((m : Int) + 1)) = V2 := ⟨_, rfl⟩
              have hV3 : W.setCell ⟨kx, 0, none⟩ (.int .i64 (((m + 1) : Nat) : Int)) = V2 := hV2
              rw [hV3] at S16 st16 K16 Q16
              rw [hV2]
              clear hV2 hV3 S15 st15 K15 Q15 c0 c1
              have c0 := S16.k.cell 0
              simp at c0
              have st0 := S16.r.stp.cell 0
              simp at st0
              refine region_round rfl (by kernel_rfl) (by kernel_rfl) (by kernel_rfl) ?_
              repeat (gi_big_quiet_step (fail))
              refine wpQuietIn_step (fun _ _ _ _ => trivial) (fun K hK => ?_)
              go_simp
              apply Exists.intro
              refine ⟨fun _ => ?_, hK _ ?_⟩
              · exact CallsIn.quiet_of_same (callsIn_wide.2 (hpi.out _))
              clear hK K
              repeat (gi_big_quiet_step (fail))
              refine wpQuietIn_nil ?_
              rintro _ ⟨nq, rfl⟩
              have S17 := S16.draws nq
              have st17 := st16.draws nq
              have K17 := keepsFrom_draws K16 nq
              have Q17 := Q16.draws nq
              clear S16 st16 K16 Q16 c0 st0
              replace S17 := Lib.hid S17
              replace st17 := Lib.hid st17
              replace K17 := Lib.hid K17
              replace Q17 := Lib.hid Q17
              by_cases hgt : pk < (m + 1)
              · have hgI : ((pk : Nat) : Int) < ((m : Int) + 1) := by omega
                gi_wp2_with (fail)
                exact ⟨K17.out, ⟨rfl, by first | (rw [hpre.out]; omega) | (rw [hpre2.out]; omega) | (simp; omega)⟩, by first | (rw [hpre.out]; exact S17.out) | (rw [hpre2.out]; exact S17.out) | exact S17.out, st17.out⟩
              · have hgI : ¬ ((pk : Nat) : Int) < ((m : Int) + 1) := by omega
                gi_wp2_with (fail)
                exact ⟨K17.out, Q17.out, ⟨by first | (rw [hpre.out]; exact S17.out) | (rw [hpre2.out]; exact S17.out) | exact S17.out, st17.out⟩, by first | (rw [hpre.out]; omega) | (rw [hpre2.out]; omega) | (simp; omega)⟩
          case done2 =>
            rintro D2 xs W hD2 hxs ⟨⟨S, B1, h1, t1, D, ht1, hc1, hc2⟩, hpl⟩ hW2
            have hxl2 : xs.length = X.length := by rw [← hwk, ← hxs, List.length_map]
            rw [hxl2] at S
            have hw1 : walkP B1 f y t1 = [] := by
              by_cases hx0 : xs = []
              · have : X = [] := List.length_eq_zero_iff.1 (by rw [← hxl2, hx0]; rfl)
                rw [chain_walkP hf0 (hc1 hx0), this]
              · rw [hc2 hx0]; exact walk_nil _ _ _ hf0
            have hv : Hid (X.length ≤ X.length) := Nat.le_refl _
            have hvk : Hid (X.length = X.length ∨ X.length = pk + 1) := .inl rfl
            clear hxs hxl2 hpl hc1 hc2
            have l0 := Bk.fresh W 3 #[.int .i64 0]
            have hB13 : Below W.heap.size W (W.alloc (.cells #[.int .i64 0] 3)) := (Below.refl _ _).alloc (Nat.le_refl _) _
            have S := S.kept hB13
            have D := D.bel hB13
            have hW2 := (below_others hB13).same _ _ hW2 rfl
            gi_wp2_with (fail)
            obtain ⟨lx, hlx⟩ : ∃ lx, W.heap.size = lx := ⟨_, rfl⟩
            obtain ⟨w8, hw8⟩ : ∃ w8, W.alloc (.cells #[.int .i64 0] 3) = w8 := ⟨_, rfl⟩
            have hD2l := (Array.getElem?_eq_some_iff.1 hW2).1
            rw [hlx] at l0 ⊢
            rw [hw8] at l0 S D hW2 hD2l ⊢
            clear hw8 hlx hB13
            have hz8 := S.z
            refine range_skip 8 97 ev (by decide) (fun _ => False) (fun i e => e.elim) rfl rfl D S.e
              (fun _ V => (Bxs w sb (sb + 1) db st d kx nx ev D1 w7.heap.size X.length X.length V ∧ Bk V lx 3 #[.int .i64 0]) ∧ V.heap[D2]? = some (.deferred (some []))) (fun _ _ _ => False)
              (OwnFrom.and (OwnFrom.and (Bxs.own' _ hz8) (Own.from (own_bk _ _ _) _)) (own_def _ _ _ hD2l)) (fun c s A B row hs hg hr => hs) ⟨⟨S, l0⟩, hW2⟩ ?body3 ?done3 ?stop3
            case body3 => rintro l3 pre x V hl hlr h3 hlt; rw [hw1] at hlt; simp at hlt
            case stop3 => rintro D' c pre V hD hpre hf hW; exact hf.elim
            case done3 =>
              rintro D3 xs V hD3 hxs ⟨⟨S, l0⟩, hd2⟩ hd3
              have c0 := S.k.cell 0
              simp at c0
              have c1 := S.n.cell 0
              simp at c1
              have c2 := S.r.stp.cell 0
              simp at c2
              have c3 := S.r.res.cell 0
              simp at c3
              have c4 := S.r.res.free 0
              have c5 := l0.cell 0
              simp at c5
              gi_wp2_with (fail)
              have hb8 := S.r.bel
              have hq8 := S.r.res
              have hd1 := S.d1
              have hl8 := S.lt
              have hord : Hid ((w.heap.size ≤ sb + 1 ∧ w.heap.size ≤ D1 ∧ w.heap.size ≤ D2 ∧ w.heap.size ≤ D3) ∧ (sb + 1 ≠ D1 ∧ sb + 1 ≠ D2 ∧ sb + 1 ≠ D3) ∧ D1 ≠ D2 ∧ D1 ≠ D3 ∧ D2 ≠ D3) := Lib.hid (by omega)
              have hsw2 : Hid (w.heap.size ≤ sb + 1) := Lib.hid (by omega)
              obtain ⟨xl, hxl2⟩ : ∃ xl, X.length = xl := ⟨_, rfl⟩
              obtain ⟨vv, hvv2⟩ : ∃ vv, X.length = vv := ⟨_, rfl⟩
              have hvv3 : vv = xl ∨ vv = pk + 1 := by rw [← hxl2, ← hvv2]; first | exact hvk.out | exact .inl rfl
              have hvv4 : vv ≤ xl := by rw [← hxl2, ← hvv2]; first | exact hv.out | exact Nat.le_refl _
              rw [hxl2] at c1
              rw [hvv2] at c0
              replace hb8 := Lib.hid hb8
              replace hq8 := Lib.hid hq8
              replace hd1 := Lib.hid hd1
              replace hd2 := Lib.hid hd2
              replace hd3 := Lib.hid hd3
              clear hxl2 hvv2 hvk hv S l0 hl8 hD3 hxs D hD2l hz8 hw1 hsb hsw hf hdw D4 R4 hC hX12 l1 l2 l3 l4 hnz hnx6 n0 hwk hD1 hxl hDW hkn hkz hkx l5 l6 hS7 hW7 n1 a2 R k0 hD2 ht1 hW2 z1 z2 z3 hf0
              refine wpIn_wide.2 ?_
              by_cases hvx : vv = xl
              · obtain ⟨bb, hbb⟩ : ∃ bb : Bool, ((vv : Int) == (xl : Int)) = bb := ⟨_, rfl⟩
                have hbt : Hid (bb = true) := Lib.hid (by rw [← hbb, hvx]; simp)
                clear hvv3 hvv4 hvx
                refine wp_region_still_tail 19 (by kernel_rfl) (by kernel_rfl) ?_
                simp only [List.take_succ_cons, List.take_zero, List.drop_succ_cons, List.drop_zero]
                refine still_want rfl (fun K hK => ?_)
                replace hK := Lib.hid hK
                go_simp
                refine hK.out _ ?_
                clear hK K
                refine still_want rfl (fun K hK => ?_)
                replace hK := Lib.hid hK
                go_simp
                refine hK.out _ ?_
                clear hK K
                refine still_want rfl (fun K hK => ?_)
                replace hK := Lib.hid hK
                go_simp
                refine hK.out _ ?_
                clear hK K
                refine still_want rfl (fun K hK => ?_)
                replace hK := Lib.hid hK
                go_simp
                refine hK.out _ ?_
                clear hK K
                refine still_want rfl (fun K hK => ?_)
                replace hK := Lib.hid hK
                go_simp
                refine hK.out _ ?_
                clear hK K
                refine still_want rfl (fun K hK => ?_)
                replace hK := Lib.hid hK
                go_simp
                refine hK.out _ ?_
                clear hK K
                refine still_want rfl (fun K hK => ?_)
                replace hK := Lib.hid hK
                go_simp
                refine hK.out _ ?_
                clear hK K
                refine still_skip (by first | exact Eq.trans (rfl : _ = (some bb == some false)) (by rw [hbt.out]; rfl) | exact (rfl : ((none : Option Bool) == some true) = false)) (fun K hK => ?_)
                replace hK := Lib.hid hK
                go_simp
                refine hK.out _ ?_
                clear hK K
                refine still_skip (by first | exact Eq.trans (rfl : _ = (some bb == some false)) (by rw [hbt.out]; rfl) | exact (rfl : ((none : Option Bool) == some true) = false)) (fun K hK => ?_)
                replace hK := Lib.hid hK
                go_simp
                refine hK.out _ ?_
                clear hK K
                refine still_skip (by first | exact Eq.trans (rfl : _ = (some bb == some false)) (by rw [hbt.out]; rfl) | exact (rfl : ((none : Option Bool) == some true) = false)) (fun K hK => ?_)
                replace hK := Lib.hid hK
                go_simp
                refine hK.out _ ?_
                clear hK K
                refine still_skip (by first | exact Eq.trans (rfl : _ = (some bb == some false)) (by rw [hbt.out]; rfl) | exact (rfl : ((none : Option Bool) == some true) = false)) (fun K hK => ?_)
                replace hK := Lib.hid hK
                go_simp
                refine hK.out _ ?_
                clear hK K
                refine still_skip (by first | exact Eq.trans (rfl : _ = (some bb == some false)) (by rw [hbt.out]; rfl) | exact (rfl : ((none : Option Bool) == some true) = false)) (fun K hK => ?_)
                replace hK := Lib.hid hK
                go_simp
                refine hK.out _ ?_
                clear hK K
                refine still_skip (by first | exact Eq.trans (rfl : _ = (some bb == some false)) (by rw [hbt.out]; rfl) | exact (rfl : ((none : Option Bool) == some true) = false)) (fun K hK => ?_)
                replace hK := Lib.hid hK
                go_simp
                refine hK.out _ ?_
                clear hK K
                refine still_skip (by first | exact Eq.trans (rfl : _ = (some bb == some false)) (by rw [hbt.out]; rfl) | exact (rfl : ((none : Option Bool) == some true) = false)) (fun K hK => ?_)
                replace hK := Lib.hid hK
                go_simp
                refine hK.out _ ?_
                clear hK K
                refine still_skip (by first | exact Eq.trans (rfl : _ = (some bb == some false)) (by rw [hbt.out]; rfl) | exact (rfl : ((none : Option Bool) == some true) = false)) (fun K hK => ?_)
                replace hK := Lib.hid hK
                go_simp
                refine hK.out _ ?_
                clear hK K
                refine still_skip (by first | exact Eq.trans (rfl : _ = (some bb == some false)) (by rw [hbt.out]; rfl) | exact (rfl : ((none : Option Bool) == some true) = false)) (fun K hK => ?_)
                replace hK := Lib.hid hK
                go_simp
                refine hK.out _ ?_
                clear hK K
                refine still_skip (by first | exact Eq.trans (rfl : _ = (some bb == some false)) (by rw [hbt.out]; rfl) | exact (rfl : ((none : Option Bool) == some true) = false)) (fun K hK => ?_)
                replace hK := Lib.hid hK
                go_simp
                refine hK.out _ ?_
                clear hK K
                obtain rfl := hbt.out
                refine still_want rfl (fun K hK => ?_)
                replace hK := Lib.hid hK
                go_simp
                refine hK.out _ ?_
                clear hK K
                refine still_want rfl (fun K hK => ?_)
                replace hK := Lib.hid hK
                go_simp
                refine hK.out _ ?_
                clear hK K
                refine wpStill_nil ?_
                change wpList _ _ _ _ _ V.drew
                go_wp2_with (fail)
                have kU : Bk (V.setCell ⟨sb + 1, 0, none⟩ (.bool true)).drew (sb + 1) 4 #[.bool true] := hq8.out.put 0 (.bool true)
                have e3 : (V.setCell ⟨sb + 1, 0, none⟩ (.bool true)).drew.heap[D3]? = some (.deferred (some [])) := (KeepsOthers.setCell V ⟨sb + 1, 0, none⟩ (.bool true)).same D3 _ hd3.out rfl
                have e2 : (V.setCell ⟨sb + 1, 0, none⟩ (.bool true)).drew.heap[D2]? = some (.deferred (some [])) := (KeepsOthers.setCell V ⟨sb + 1, 0, none⟩ (.bool true)).same D2 _ hd2.out rfl
                have e1 : (V.setCell ⟨sb + 1, 0, none⟩ (.bool true)).drew.heap[D1]? = some (.deferred (some [])) := (KeepsOthers.setCell V ⟨sb + 1, 0, none⟩ (.bool true)).same D1 _ hd1.out rfl
                have bU : Below w.heap.size w (V.setCell ⟨sb + 1, 0, none⟩ (.bool true)).drew := (hb8.out.setCell (p := ⟨sb + 1, 0, none⟩) hsw2.out (.bool true)).drew
                obtain ⟨U, hU⟩ : ∃ U, (V.setCell ⟨sb + 1, 0, none⟩ (.bool true)).drew = U := ⟨_, rfl⟩
                rw [hU] at kU e3 e2 e1 bU ⊢
                clear hU c3 c4 hb8 hq8 hd1 hd2 hd3 hsw2
                have o := hord.out
                have z3 := kU.grown (grownBy_putObj' _ D3 (.deferred none)) (by simp; exact o.2.1.2.2)
                have f2 := ((grownBy_putObj' U D3 (.deferred none)).block D2 (Array.getElem?_eq_some_iff.1 e2).1 (by simp; exact o.2.2.2.2)).trans e2
                have f1 := ((grownBy_putObj' U D3 (.deferred none)).block D1 (Array.getElem?_eq_some_iff.1 e1).1 (by simp; exact o.2.2.2.1)).trans e1
                have b3 := bU.trans (belowK_b (w := w) (Nat.le_refl _) _ D3 (.deferred (some [])) (.deferred none) o.1.2.2.2 e3 rfl rfl)
                obtain ⟨U3, hU3⟩ : ∃ U3, U.putObj D3 (.deferred none) = U3 := ⟨_, rfl⟩
                have t3 := run_takeDeferred (P := Try.prog) e3
                rw [hU3] at z3 f2 f1 b3 t3
                have z2 := z3.grown (grownBy_putObj' _ D2 (.deferred none)) (by simp; exact o.2.1.2.1)
                have h1 := ((grownBy_putObj' U3 D2 (.deferred none)).block D1 (Array.getElem?_eq_some_iff.1 f1).1 (by simp; exact o.2.2.1)).trans f1
                have b2 := b3.trans (belowK_b (w := w) (Nat.le_refl _) _ D2 (.deferred (some [])) (.deferred none) o.1.2.2.1 f2 rfl rfl)
                obtain ⟨U2, hU2⟩ : ∃ U2, U3.putObj D2 (.deferred none) = U2 := ⟨_, rfl⟩
                have t2 := run_takeDeferred (P := Try.prog) f2
                rw [hU2] at z2 h1 b2 t2
                have z1 := z2.grown (grownBy_putObj' _ D1 (.deferred none)) (by simp; exact o.2.1.1)
                have b1 := b2.trans (belowK_b (w := w) (Nat.le_refl _) _ D1 (.deferred (some [])) (.deferred none) o.1.2.1 h1 rfl rfl)
                have t1 := run_takeDeferred (P := Try.prog) h1
                obtain ⟨U1, hU1⟩ : ∃ U1, U2.putObj D1 (.deferred none) = U1 := ⟨_, rfl⟩
                rw [hU1] at z1 b1 t1
                have y0 := z1.cell 0
                simp at y0
                replace z1 := Lib.hid z1
                replace b1 := Lib.hid b1
                replace t3 := Lib.hid t3
                replace t2 := Lib.hid t2
                replace t1 := Lib.hid t1
                clear o z3 f2 f1 b3 z2 h1 b2 kU e3 e2 e1 bU hU3 hU2 hU1 hord
                gi_wp2_with (fail)
                refine ⟨by simp, .inl ⟨_, _, rfl, t3.out, ?_⟩⟩
                refine ⟨by simp, .inl ⟨_, _, rfl, t2.out, ?_⟩⟩
                refine ⟨by simp, .inl ⟨_, _, rfl, t1.out, ?_⟩⟩
                refine ⟨_, ?_, rfl, b1.out⟩
                simp [results, Try.f4, go_sem, y0]
              · have hv2 := hvv3.resolve_left hvx
                have g1 : ((vv : Int) == (xl : Int)) = false := by simp; omega
                have g1' : ¬ vv = xl := by omega
                have g2 : decide ((vv : Int) ≤ (xl : Int)) = true := decide_eq_true (by omega)
                have g2' : decide (vv ≤ xl) = true := decide_eq_true (by omega)
                have g3 : IntKind.i64.wrap (1 + (pk : Int)) = (vv : Int) := by have hpk20' := hpk20.out; rw [IntKind.wrap_i64]; omega
                clear hvv3 hvv4 hvx hv2
                refine wp_region_still_tail 19 (by kernel_rfl) (by kernel_rfl) ?_
                simp only [List.take_succ_cons, List.take_zero, List.drop_succ_cons, List.drop_zero]
                refine still_want rfl (fun K hK => ?_)
                replace hK := Lib.hid hK
                go_simp
                refine hK.out _ ?_
                clear hK K
                refine still_want rfl (fun K hK => ?_)
                replace hK := Lib.hid hK
                go_simp
                refine hK.out _ ?_
                clear hK K
                refine still_want rfl (fun K hK => ?_)
                replace hK := Lib.hid hK
                go_simp
                refine hK.out _ ?_
                clear hK K
                refine still_want rfl (fun K hK => ?_)
                replace hK := Lib.hid hK
                go_simp
                refine hK.out _ ?_
                clear hK K
                refine still_want rfl (fun K hK => ?_)
                replace hK := Lib.hid hK
                go_simp
                refine hK.out _ ?_
                clear hK K
                refine still_want rfl (fun K hK => ?_)
                replace hK := Lib.hid hK
                go_simp
                refine hK.out _ ?_
                clear hK K
                refine still_want rfl (fun K hK => ?_)
                replace hK := Lib.hid hK
                go_simp
                refine hK.out _ ?_
                clear hK K
                refine still_want rfl (fun K hK => ?_)
                replace hK := Lib.hid hK
                go_simp
                refine hK.out _ ?_
                clear hK K
                refine still_want rfl (fun K hK => ?_)
                replace hK := Lib.hid hK
                go_simp
                refine hK.out _ ?_
                clear hK K
                refine still_want rfl (fun K hK => ?_)
                replace hK := Lib.hid hK
                go_simp
                refine ⟨_, (hpi.out _), hK.out _ ?_⟩
                clear hK K
                refine still_want rfl (fun K hK => ?_)
                replace hK := Lib.hid hK
                go_simp
                refine hK.out _ ?_
                clear hK K
                refine still_want rfl (fun K hK => ?_)
                replace hK := Lib.hid hK
                go_simp
                refine hK.out _ ?_
                clear hK K
                refine still_want rfl (fun K hK => ?_)
                replace hK := Lib.hid hK
                go_simp
                refine hK.out _ ?_
                clear hK K
                refine still_want rfl (fun K hK => ?_)
                replace hK := Lib.hid hK
                go_simp
                refine hK.out _ ?_
                clear hK K
                refine still_want rfl (fun K hK => ?_)
                replace hK := Lib.hid hK
                go_simp
                refine hK.out _ ?_
                clear hK K
                refine still_want rfl (fun K hK => ?_)
                replace hK := Lib.hid hK
                go_simp
                refine hK.out _ ?_
                clear hK K
                refine still_want rfl (fun K hK => ?_)
                replace hK := Lib.hid hK
                go_simp
                refine hK.out _ ?_
                clear hK K
                refine still_want rfl (fun K hK => ?_)
                replace hK := Lib.hid hK
                go_simp
                refine hK.out _ ?_
                clear hK K
                refine still_want rfl (fun K hK => ?_)
                replace hK := Lib.hid hK
                go_simp
                refine hK.out _ ?_
                clear hK K
                refine wpStill_nil ?_
                change wpList _ _ _ _ _ V.drew
                go_wp2_with (fail)
                have kU : Bk (V.setCell ⟨sb + 1, 0, none⟩ (.bool true)).drew (sb + 1) 4 #[.bool true] := hq8.out.put 0 (.bool true)
                have e3 : (V.setCell ⟨sb + 1, 0, none⟩ (.bool true)).drew.heap[D3]? = some (.deferred (some [])) := (KeepsOthers.setCell V ⟨sb + 1, 0, none⟩ (.bool true)).same D3 _ hd3.out rfl
                have e2 : (V.setCell ⟨sb + 1, 0, none⟩ (.bool true)).drew.heap[D2]? = some (.deferred (some [])) := (KeepsOthers.setCell V ⟨sb + 1, 0, none⟩ (.bool true)).same D2 _ hd2.out rfl
                have e1 : (V.setCell ⟨sb + 1, 0, none⟩ (.bool true)).drew.heap[D1]? = some (.deferred (some [])) := (KeepsOthers.setCell V ⟨sb + 1, 0, none⟩ (.bool true)).same D1 _ hd1.out rfl
                have bU : Below w.heap.size w (V.setCell ⟨sb + 1, 0, none⟩ (.bool true)).drew := (hb8.out.setCell (p := ⟨sb + 1, 0, none⟩) hsw2.out (.bool true)).drew
                obtain ⟨U, hU⟩ : ∃ U, (V.setCell ⟨sb + 1, 0, none⟩ (.bool true)).drew = U := ⟨_, rfl⟩
                rw [hU] at kU e3 e2 e1 bU ⊢
                clear hU c3 c4 hb8 hq8 hd1 hd2 hd3 hsw2
                have o := hord.out
                have z3 := kU.grown (grownBy_putObj' _ D3 (.deferred none)) (by simp; exact o.2.1.2.2)
                have f2 := ((grownBy_putObj' U D3 (.deferred none)).block D2 (Array.getElem?_eq_some_iff.1 e2).1 (by simp; exact o.2.2.2.2)).trans e2
                have f1 := ((grownBy_putObj' U D3 (.deferred none)).block D1 (Array.getElem?_eq_some_iff.1 e1).1 (by simp; exact o.2.2.2.1)).trans e1
                have b3 := bU.trans (belowK_b (w := w) (Nat.le_refl _) _ D3 (.deferred (some [])) (.deferred none) o.1.2.2.2 e3 rfl rfl)
                obtain ⟨U3, hU3⟩ : ∃ U3, U.putObj D3 (.deferred none) = U3 := ⟨_, rfl⟩
                have t3 := run_takeDeferred (P := Try.prog) e3
                rw [hU3] at z3 f2 f1 b3 t3
                have z2 := z3.grown (grownBy_putObj' _ D2 (.deferred none)) (by simp; exact o.2.1.2.1)
                have h1 := ((grownBy_putObj' U3 D2 (.deferred none)).block D1 (Array.getElem?_eq_some_iff.1 f1).1 (by simp; exact o.2.2.1)).trans f1
                have b2 := b3.trans (belowK_b (w := w) (Nat.le_refl _) _ D2 (.deferred (some [])) (.deferred none) o.1.2.2.1 f2 rfl rfl)
                obtain ⟨U2, hU2⟩ : ∃ U2, U3.putObj D2 (.deferred none) = U2 := ⟨_, rfl⟩
                have t2 := run_takeDeferred (P := Try.prog) f2
                rw [hU2] at z2 h1 b2 t2
                have z1 := z2.grown (grownBy_putObj' _ D1 (.deferred none)) (by simp; exact o.2.1.1)
                have b1 := b2.trans (belowK_b (w := w) (Nat.le_refl _) _ D1 (.deferred (some [])) (.deferred none) o.1.2.1 h1 rfl rfl)
                have t1 := run_takeDeferred (P := Try.prog) h1
                obtain ⟨U1, hU1⟩ : ∃ U1, U2.putObj D1 (.deferred none) = U1 := ⟨_, rfl⟩
                rw [hU1] at z1 b1 t1
                have y0 := z1.cell 0
                simp at y0
                replace z1 := Lib.hid z1
                replace b1 := Lib.hid b1
                replace t3 := Lib.hid t3
                replace t2 := Lib.hid t2
                replace t1 := Lib.hid t1
                clear o z3 f2 f1 b3 z2 h1 b2 kU e3 e2 e1 bU hU3 hU2 hU1 hord
                gi_wp2_with (fail)
                refine ⟨by simp, .inl ⟨_, _, rfl, t3.out, ?_⟩⟩
                refine ⟨by simp, .inl ⟨_, _, rfl, t2.out, ?_⟩⟩
                refine ⟨by simp, .inl ⟨_, _, rfl, t1.out, ?_⟩⟩
                refine ⟨_, ?_, rfl, b1.out⟩
                simp [results, Try.f4, go_sem, y0]
          case stop2 =>
            rintro D2 c pre W hD2 hpre ⟨⟨rfl, hpl⟩, S, B1, h1, t1, D, ht1, hc1, hc2⟩ hW2
            have hple : pre.length ≤ X.length := by rw [← hwk, ← List.length_map (f := fun x : NW => x.1)]; exact hpre.length_le
            have hw1 : walkP B1 f y t1 = [] := by
              rw [hc2 (by intro e; rw [e] at hpl; simp at hpl)]; exact walk_nil _ _ _ hf0
            have hvk : Hid (pre.length = X.length ∨ pre.length = pk + 1) := .inr hpl
            have hv : Hid (pre.length ≤ X.length) := hple
            obtain ⟨v, hvv⟩ : ∃ v, pre.length = v := ⟨_, rfl⟩
            rw [hvv] at S hv hvk
            clear hpre hpl hple hc1 hc2 hvv
            have l0 := Bk.fresh W 3 #[.int .i64 0]
            have hB13 : Below W.heap.size W (W.alloc (.cells #[.int .i64 0] 3)) := (Below.refl _ _).alloc (Nat.le_refl _) _
            have S := S.kept hB13
            have D := D.bel hB13
            have hW2 := (below_others hB13).same _ _ hW2 rfl
            gi_wp2_with (fail)
            obtain ⟨lx, hlx⟩ : ∃ lx, W.heap.size = lx := ⟨_, rfl⟩
            obtain ⟨w8, hw8⟩ : ∃ w8, W.alloc (.cells #[.int .i64 0] 3) = w8 := ⟨_, rfl⟩
            have hD2l := (Array.getElem?_eq_some_iff.1 hW2).1
            rw [hlx] at l0 ⊢
            rw [hw8] at l0 S D hW2 hD2l ⊢
            clear hw8 hlx hB13
            have hz8 := S.z
            refine range_skip 8 97 ev (by decide) (fun _ => False) (fun i e => e.elim) rfl rfl D S.e
              (fun _ V => (Bxs w sb (sb + 1) db st d kx nx ev D1 w7.heap.size X.length v V ∧ Bk V lx 3 #[.int .i64 0]) ∧ V.heap[D2]? = some (.deferred (some []))) (fun _ _ _ => False)
              (OwnFrom.and (OwnFrom.and (Bxs.own' _ hz8) (Own.from (own_bk _ _ _) _)) (own_def _ _ _ hD2l)) (fun c s A B row hs hg hr => hs) ⟨⟨S, l0⟩, hW2⟩ ?body3 ?done3 ?stop3
            case body3 => rintro l3 pre x V hl hlr h3 hlt; rw [hw1] at hlt; simp at hlt
            case stop3 => rintro D' c pre V hD hpre hf hW; exact hf.elim
            case done3 =>
              rintro D3 xs V hD3 hxs ⟨⟨S, l0⟩, hd2⟩ hd3
              have c0 := S.k.cell 0
              simp at c0
              have c1 := S.n.cell 0
              simp at c1
              have c2 := S.r.stp.cell 0
              simp at c2
              have c3 := S.r.res.cell 0
              simp at c3
              have c4 := S.r.res.free 0
              have c5 := l0.cell 0
              simp at c5
              gi_wp2_with (fail)
              have hb8 := S.r.bel
              have hq8 := S.r.res
              have hd1 := S.d1
              have hl8 := S.lt
              have hord : Hid ((w.heap.size ≤ sb + 1 ∧ w.heap.size ≤ D1 ∧ w.heap.size ≤ D2 ∧ w.heap.size ≤ D3) ∧ (sb + 1 ≠ D1 ∧ sb + 1 ≠ D2 ∧ sb + 1 ≠ D3) ∧ D1 ≠ D2 ∧ D1 ≠ D3 ∧ D2 ≠ D3) := Lib.hid (by omega)
              have hsw2 : Hid (w.heap.size ≤ sb + 1) := Lib.hid (by omega)
              obtain ⟨xl, hxl2⟩ : ∃ xl, X.length = xl := ⟨_, rfl⟩
              obtain ⟨vv, hvv2⟩ : ∃ vv, v = vv := ⟨_, rfl⟩
              have hvv3 : vv = xl ∨ vv = pk + 1 := by rw [← hxl2, ← hvv2]; first | exact hvk.out | exact .inl rfl
              have hvv4 : vv ≤ xl := by rw [← hxl2, ← hvv2]; first | exact hv.out | exact Nat.le_refl _
              rw [hxl2] at c1
              rw [hvv2] at c0
              replace hb8 := Lib.hid hb8
              replace hq8 := Lib.hid hq8
              replace hd1 := Lib.hid hd1
              replace hd2 := Lib.hid hd2
              replace hd3 := Lib.hid hd3
              clear hxl2 hvv2 hvk hv S l0 hl8 hD3 hxs D hD2l hz8 hw1 hsb hsw hf hdw D4 R4 hC hX12 l1 l2 l3 l4 hnz hnx6 n0 hwk hD1 hxl hDW hkn hkz hkx l5 l6 hS7 hW7 n1 a2 R k0 hD2 ht1 hW2 z1 z2 z3 hf0
              refine wpIn_wide.2 ?_
              by_cases hvx : vv = xl
              · obtain ⟨bb, hbb⟩ : ∃ bb : Bool, ((vv : Int) == (xl : Int)) = bb := ⟨_, rfl⟩
                have hbt : Hid (bb = true) := Lib.hid (by rw [← hbb, hvx]; simp)
                clear hvv3 hvv4 hvx
                refine wp_region_still_tail 19 (by kernel_rfl) (by kernel_rfl) ?_
                simp only [List.take_succ_cons, List.take_zero, List.drop_succ_cons, List.drop_zero]
                refine still_want rfl (fun K hK => ?_)
                replace hK := Lib.hid hK
                go_simp
                refine hK.out _ ?_
                clear hK K
                refine still_want rfl (fun K hK => ?_)
                replace hK := Lib.hid hK
                go_simp
                refine hK.out _ ?_
                clear hK K
                refine still_want rfl (fun K hK => ?_)
                replace hK := Lib.hid hK
                go_simp
                refine hK.out _ ?_
                clear hK K
                refine still_want rfl (fun K hK => ?_)
                replace hK := Lib.hid hK
                go_simp
                refine hK.out _ ?_
                clear hK K
                refine still_want rfl (fun K hK => ?_)
                replace hK := Lib.hid hK
                go_simp
                refine hK.out _ ?_
                clear hK K
                refine still_want rfl (fun K hK => ?_)
                replace hK := Lib.hid hK
                go_simp
                refine hK.out _ ?_
                clear hK K
                refine still_want rfl (fun K hK => ?_)
                replace hK := Lib.hid hK
                go_simp
                refine hK.out _ ?_
                clear hK K
                refine still_skip (by first | exact Eq.trans (rfl : _ = (some bb == some false)) (by rw [hbt.out]; rfl) | exact (rfl : ((none : Option Bool) == some true) = false)) (fun K hK => ?_)
                replace hK := Lib.hid hK
                go_simp
                refine hK.out _ ?_
                clear hK K
                refine still_skip (by first | exact Eq.trans (rfl : _ = (some bb == some false)) (by rw [hbt.out]; rfl) | exact (rfl : ((none : Option Bool) == some true) = false)) (fun K hK => ?_)
                replace hK := Lib.hid hK
                go_simp
                refine hK.out _ ?_
                clear hK K
                refine still_skip (by first | exact Eq.trans (rfl : _ = (some bb == some false)) (by rw [hbt.out]; rfl) | exact (rfl : ((none : Option Bool) == some true) = false)) (fun K hK => ?_)
                replace hK := Lib.hid hK
                go_simp
                refine hK.out _ ?_
                clear hK K
                refine still_skip (by first | exact Eq.trans (rfl : _ = (some bb == some false)) (by rw [hbt.out]; rfl) | exact (rfl : ((none : Option Bool) == some true) = false)) (fun K hK => ?_)
                replace hK := Lib.hid hK
                go_simp
                refine hK.out _ ?_
                clear hK K
                refine still_skip (by first | exact Eq.trans (rfl : _ = (some bb == some false)) (by rw [hbt.out]; rfl) | exact (rfl : ((none : Option Bool) == some true) = false)) (fun K hK => ?_)
                replace hK := Lib.hid hK
                go_simp
                refine hK.out _ ?_
                clear hK K
                refine still_skip (by first | exact Eq.trans (rfl : _ = (some bb == some false)) (by rw [hbt.out]; rfl) | exact (rfl : ((none : Option Bool) == some true) = false)) (fun K hK => ?_)
                replace hK := Lib.hid hK
                go_simp
                refine hK.out _ ?_
                clear hK K
                refine still_skip (by first | exact Eq.trans (rfl : _ = (some bb == some false)) (by rw [hbt.out]; rfl) | exact (rfl : ((none : Option Bool) == some true) = false)) (fun K hK => ?_)
                replace hK := Lib.hid hK
                go_simp
                refine hK.out _ ?_
                clear hK K
                refine still_skip (by first | exact Eq.trans (rfl : _ = (some bb == some false)) (by rw [hbt.out]; rfl) | exact (rfl : ((none : Option Bool) == some true) = false)) (fun K hK => ?_)
                replace hK := Lib.hid hK
                go_simp
                refine hK.out _ ?_
                clear hK K
                refine still_skip (by first | exact Eq.trans (rfl : _ = (some bb == some false)) (by rw [hbt.out]; rfl) | exact (rfl : ((none : Option Bool) == some true) = false)) (fun K hK => ?_)
                replace hK := Lib.hid hK
                go_simp
                refine hK.out _ ?_
                clear hK K
                refine still_skip (by first | exact Eq.trans (rfl : _ = (some bb == some false)) (by rw [hbt.out]; rfl) | exact (rfl : ((none : Option Bool) == some true) = false)) (fun K hK => ?_)
                replace hK := Lib.hid hK
                go_simp
                refine hK.out _ ?_
                clear hK K
                obtain rfl := hbt.out
                refine still_want rfl (fun K hK => ?_)
                replace hK := Lib.hid hK
                go_simp
                refine hK.out _ ?_
                clear hK K
                refine still_want rfl (fun K hK => ?_)
                replace hK := Lib.hid hK
                go_simp
                refine hK.out _ ?_
                clear hK K
                refine wpStill_nil ?_
                change wpList _ _ _ _ _ V.drew
                go_wp2_with (fail)
                have kU : Bk (V.setCell ⟨sb + 1, 0, none⟩ (.bool true)).drew (sb + 1) 4 #[.bool true] := hq8.out.put 0 (.bool true)
                have e3 : (V.setCell ⟨sb + 1, 0, none⟩ (.bool true)).drew.heap[D3]? = some (.deferred (some [])) := (KeepsOthers.setCell V ⟨sb + 1, 0, none⟩ (.bool true)).same D3 _ hd3.out rfl
                have e2 : (V.setCell ⟨sb + 1, 0, none⟩ (.bool true)).drew.heap[D2]? = some (.deferred (some [])) := (KeepsOthers.setCell V ⟨sb + 1, 0, none⟩ (.bool true)).same D2 _ hd2.out rfl
                have e1 : (V.setCell ⟨sb + 1, 0, none⟩ (.bool true)).drew.heap[D1]? = some (.deferred (some [])) := (KeepsOthers.setCell V ⟨sb + 1, 0, none⟩ (.bool true)).same D1 _ hd1.out rfl
                have bU : Below w.heap.size w (V.setCell ⟨sb + 1, 0, none⟩ (.bool true)).drew := (hb8.out.setCell (p := ⟨sb + 1, 0, none⟩) hsw2.out (.bool true)).drew
                obtain ⟨U, hU⟩ : ∃ U, (V.setCell ⟨sb + 1, 0, none⟩ (.bool true)).drew = U := ⟨_, rfl⟩
                rw [hU] at kU e3 e2 e1 bU ⊢
                clear hU c3 c4 hb8 hq8 hd1 hd2 hd3 hsw2
                have o := hord.out
                have z3 := kU.grown (grownBy_putObj' _ D3 (.deferred none)) (by simp; exact o.2.1.2.2)
                have f2 := ((grownBy_putObj' U D3 (.deferred none)).block D2 (Array.getElem?_eq_some_iff.1 e2).1 (by simp; exact o.2.2.2.2)).trans e2
                have f1 := ((grownBy_putObj' U D3 (.deferred none)).block D1 (Array.getElem?_eq_some_iff.1 e1).1 (by simp; exact o.2.2.2.1)).trans e1
                have b3 := bU.trans (belowK_b (w := w) (Nat.le_refl _) _ D3 (.deferred (some [])) (.deferred none) o.1.2.2.2 e3 rfl rfl)
                obtain ⟨U3, hU3⟩ : ∃ U3, U.putObj D3 (.deferred none) = U3 := ⟨_, rfl⟩
                have t3 := run_takeDeferred (P := Try.prog) e3
                rw [hU3] at z3 f2 f1 b3 t3
                have z2 := z3.grown (grownBy_putObj' _ D2 (.deferred none)) (by simp; exact o.2.1.2.1)
                have h1 := ((grownBy_putObj' U3 D2 (.deferred none)).block D1 (Array.getElem?_eq_some_iff.1 f1).1 (by simp; exact o.2.2.1)).trans f1
                have b2 := b3.trans (belowK_b (w := w) (Nat.le_refl _) _ D2 (.deferred (some [])) (.deferred none) o.1.2.2.1 f2 rfl rfl)
                obtain ⟨U2, hU2⟩ : ∃ U2, U3.putObj D2 (.deferred none) = U2 := ⟨_, rfl⟩
                have t2 := run_takeDeferred (P := Try.prog) f2
                rw [hU2] at z2 h1 b2 t2
                have z1 := z2.grown (grownBy_putObj' _ D1 (.deferred none)) (by simp; exact o.2.1.1)
                have b1 := b2.trans (belowK_b (w := w) (Nat.le_refl _) _ D1 (.deferred (some [])) (.deferred none) o.1.2.1 h1 rfl rfl)
                have t1 := run_takeDeferred (P := Try.prog) h1
                obtain ⟨U1, hU1⟩ : ∃ U1, U2.putObj D1 (.deferred none) = U1 := ⟨_, rfl⟩
                rw [hU1] at z1 b1 t1
                have y0 := z1.cell 0
                simp at y0
                replace z1 := Lib.hid z1
                replace b1 := Lib.hid b1
                replace t3 := Lib.hid t3
                replace t2 := Lib.hid t2
                replace t1 := Lib.hid t1
                clear o z3 f2 f1 b3 z2 h1 b2 kU e3 e2 e1 bU hU3 hU2 hU1 hord
                gi_wp2_with (fail)
                refine ⟨by simp, .inl ⟨_, _, rfl, t3.out, ?_⟩⟩
                refine ⟨by simp, .inl ⟨_, _, rfl, t2.out, ?_⟩⟩
                refine ⟨by simp, .inl ⟨_, _, rfl, t1.out, ?_⟩⟩
                refine ⟨_, ?_, rfl, b1.out⟩
                simp [results, Try.f4, go_sem, y0]
              · have hv2 := hvv3.resolve_left hvx
                have g1 : ((vv : Int) == (xl : Int)) = false := by simp; omega
                have g1' : ¬ vv = xl := by omega
                have g2 : decide ((vv : Int) ≤ (xl : Int)) = true := decide_eq_true (by omega)
                have g2' : decide (vv ≤ xl) = true := decide_eq_true (by omega)
                have g3 : IntKind.i64.wrap (1 + (pk : Int)) = (vv : Int) := by have hpk20' := hpk20.out; rw [IntKind.wrap_i64]; omega
                clear hvv3 hvv4 hvx hv2
                refine wp_region_still_tail 19 (by kernel_rfl) (by kernel_rfl) ?_
                simp only [List.take_succ_cons, List.take_zero, List.drop_succ_cons, List.drop_zero]
                refine still_want rfl (fun K hK => ?_)
                replace hK := Lib.hid hK
                go_simp
                refine hK.out _ ?_
                clear hK K
                refine still_want rfl (fun K hK => ?_)
                replace hK := Lib.hid hK
                go_simp
                refine hK.out _ ?_
                clear hK K
                refine still_want rfl (fun K hK => ?_)
                replace hK := Lib.hid hK
                go_simp
                refine hK.out _ ?_
                clear hK K
                refine still_want rfl (fun K hK => ?_)
                replace hK := Lib.hid hK
                go_simp
                refine hK.out _ ?_
                clear hK K
                refine still_want rfl (fun K hK => ?_)
                replace hK := Lib.hid hK
                go_simp
                refine hK.out _ ?_
                clear hK K
                refine still_want rfl (fun K hK => ?_)
                replace hK := Lib.hid hK
                go_simp
                refine hK.out _ ?_
                clear hK K
                refine still_want rfl (fun K hK => ?_)
                replace hK := Lib.hid hK
                go_simp
                refine hK.out _ ?_
                clear hK K
                refine still_want rfl (fun K hK => ?_)
                replace hK := Lib.hid hK
                go_simp
                refine hK.out _ ?_
                clear hK K
                refine still_want rfl (fun K hK => ?_)
                replace hK := Lib.hid hK
                go_simp
                refine hK.out _ ?_
                clear hK K
                refine still_want rfl (fun K hK => ?_)
                replace hK := Lib.hid hK
                go_simp
                refine ⟨_, (hpi.out _), hK.out _ ?_⟩
                clear hK K
                refine still_want rfl (fun K hK => ?_)
                replace hK := Lib.hid hK
                go_simp
                refine hK.out _ ?_
                clear hK K
                refine still_want rfl (fun K hK => ?_)
                replace hK := Lib.hid hK
                go_simp
                refine hK.out _ ?_
                clear hK K
                refine still_want rfl (fun K hK => ?_)
                replace hK := Lib.hid hK
                go_simp
                refine hK.out _ ?_
                clear hK K
                refine still_want rfl (fun K hK => ?_)
                replace hK := Lib.hid hK
                go_simp
                refine hK.out _ ?_
                clear hK K
                refine still_want rfl (fun K hK => ?_)
                replace hK := Lib.hid hK
                go_simp
                refine hK.out _ ?_
                clear hK K
                refine still_want rfl (fun K hK => ?_)
                replace hK := Lib.hid hK
                go_simp
                refine hK.out _ ?_
                clear hK K
                refine still_want rfl (fun K hK => ?_)
                replace hK := Lib.hid hK
                go_simp
                refine hK.out _ ?_
                clear hK K
                refine still_want rfl (fun K hK => ?_)
                replace hK := Lib.hid hK
                go_simp
                refine hK.out _ ?_
                clear hK K
                refine still_want rfl (fun K hK => ?_)
                replace hK := Lib.hid hK
                go_simp
                refine hK.out _ ?_
                clear hK K
                refine wpStill_nil ?_
                change wpList _ _ _ _ _ V.drew
                go_wp2_with (fail)
                have kU : Bk (V.setCell ⟨sb + 1, 0, none⟩ (.bool true)).drew (sb + 1) 4 #[.bool true] := hq8.out.put 0 (.bool true)
                have e3 : (V.setCell ⟨sb + 1, 0, none⟩ (.bool true)).drew.heap[D3]? = some (.deferred (some [])) := (KeepsOthers.setCell V ⟨sb + 1, 0, none⟩ (.bool true)).same D3 _ hd3.out rfl
                have e2 : (V.setCell ⟨sb + 1, 0, none⟩ (.bool true)).drew.heap[D2]? = some (.deferred (some [])) := (KeepsOthers.setCell V ⟨sb + 1, 0, none⟩ (.bool true)).same D2 _ hd2.out rfl
                have e1 : (V.setCell ⟨sb + 1, 0, none⟩ (.bool true)).drew.heap[D1]? = some (.deferred (some [])) := (KeepsOthers.setCell V ⟨sb + 1, 0, none⟩ (.bool true)).same D1 _ hd1.out rfl
                have bU : Below w.heap.size w (V.setCell ⟨sb + 1, 0, none⟩ (.bool true)).drew := (hb8.out.setCell (p := ⟨sb + 1, 0, none⟩) hsw2.out (.bool true)).drew
                obtain ⟨U, hU⟩ : ∃ U, (V.setCell ⟨sb + 1, 0, none⟩ (.bool true)).drew = U := ⟨_, rfl⟩
                rw [hU] at kU e3 e2 e1 bU ⊢
                clear hU c3 c4 hb8 hq8 hd1 hd2 hd3 hsw2
                have o := hord.out
                have z3 := kU.grown (grownBy_putObj' _ D3 (.deferred none)) (by simp; exact o.2.1.2.2)
                have f2 := ((grownBy_putObj' U D3 (.deferred none)).block D2 (Array.getElem?_eq_some_iff.1 e2).1 (by simp; exact o.2.2.2.2)).trans e2
                have f1 := ((grownBy_putObj' U D3 (.deferred none)).block D1 (Array.getElem?_eq_some_iff.1 e1).1 (by simp; exact o.2.2.2.1)).trans e1
                have b3 := bU.trans (belowK_b (w := w) (Nat.le_refl _) _ D3 (.deferred (some [])) (.deferred none) o.1.2.2.2 e3 rfl rfl)
                obtain ⟨U3, hU3⟩ : ∃ U3, U.putObj D3 (.deferred none) = U3 := ⟨_, rfl⟩
                have t3 := run_takeDeferred (P := Try.prog) e3
                rw [hU3] at z3 f2 f1 b3 t3
                have z2 := z3.grown (grownBy_putObj' _ D2 (.deferred none)) (by simp; exact o.2.1.2.1)
                have h1 := ((grownBy_putObj' U3 D2 (.deferred none)).block D1 (Array.getElem?_eq_some_iff.1 f1).1 (by simp; exact o.2.2.1)).trans f1
                have b2 := b3.trans (belowK_b (w := w) (Nat.le_refl _) _ D2 (.deferred (some [])) (.deferred none) o.1.2.2.1 f2 rfl rfl)
                obtain ⟨U2, hU2⟩ : ∃ U2, U3.putObj D2 (.deferred none) = U2 := ⟨_, rfl⟩
                have t2 := run_takeDeferred (P := Try.prog) f2
                rw [hU2] at z2 h1 b2 t2
                have z1 := z2.grown (grownBy_putObj' _ D1 (.deferred none)) (by simp; exact o.2.1.1)
                have b1 := b2.trans (belowK_b (w := w) (Nat.le_refl _) _ D1 (.deferred (some [])) (.deferred none) o.1.2.1 h1 rfl rfl)
                have t1 := run_takeDeferred (P := Try.prog) h1
                obtain ⟨U1, hU1⟩ : ∃ U1, U2.putObj D1 (.deferred none) = U1 := ⟨_, rfl⟩
                rw [hU1] at z1 b1 t1
                have y0 := z1.cell 0
                simp at y0
                replace z1 := Lib.hid z1
                replace b1 := Lib.hid b1
                replace t3 := Lib.hid t3
                replace t2 := Lib.hid t2
                replace t1 := Lib.hid t1
                clear o z3 f2 f1 b3 z2 h1 b2 kU e3 e2 e1 bU hU3 hU2 hU1 hord
                gi_wp2_with (fail)
                refine ⟨by simp, .inl ⟨_, _, rfl, t3.out, ?_⟩⟩
                refine ⟨by simp, .inl ⟨_, _, rfl, t2.out, ?_⟩⟩
                refine ⟨by simp, .inl ⟨_, _, rfl, t1.out, ?_⟩⟩
                refine ⟨_, ?_, rfl, b1.out⟩
                simp [results, Try.f4, go_sem, y0]
end Go.Proofs.Ytoaiiimnfgbcaaa
