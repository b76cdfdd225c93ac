import Derived.Test.YtoaiiimnfgbcaaaDcP
namespace Go.Proofs.Ytoaiiimnfgbcaaa
open Go.RowKit Go.Shelf
attribute [local go_sem] Oper.semAt_some
attribute [local go_sem high] run_eqW1 run_eqW2
set_option linter.unusedVariables false
set_option linter.unusedSimpArgs false
/-! DictFinds -/
set_option maxHeartbeats 4000000 in
set_option maxRecDepth 100000 in
theorem walk_finds (z : Int) (A : Option Addr) (n c : Nat) (bk : Int) (w : World) (hz : inI z) (hS : Strs w A n) (hbk : inI bk) :
    Calls Try.prog 5 #[.int .i64 z, .slice A n c, .int .i64 bk] w fun e w' => e = .returned (.bool true) ∧ Below w.heap.size w w' := by
  have hlay := fun w1 => layout8_any z w1 hz
  have hnew := fun w1 => new8 z w1
  have hok := layOf8_ok z
  obtain ⟨L, hL⟩ : ∃ L, layOf8 z = L := ⟨_, rfl⟩
  simp only [hL] at hlay hnew hok
  clear hL
  unfold LV layV at hlay hnew
  replace hlay := Lib.hid hlay
  replace hnew := Lib.hid hnew
  replace hok := Lib.hid hok
  replace hS := Lib.hid hS
  replace hbk := Lib.hid hbk
  refine (callsIn_wide (n := 6)).1 ?_
  refine callsIn_of_wp_marks Try.func5 rfl trivial ?_ rfl
  simp only [Try.ntmps5, List.size_toArray, List.length_cons, List.length_nil, Nat.reduceAdd, Nat.reduceSub, Array.replicate_succ, Array.replicate_zero, List.push_toArray, List.append_toArray, List.nil_append, List.cons_append]
  gi_wp2_with (refine ⟨trivial, ?_⟩; gi_at_call 7; refine (callsIn_wide.2 (shown_any _)).mono ?_; rintro e w1 ⟨rfl, hB⟩)
  have hB0 : Below w.heap.size w (w.alloc (.cells #[.bool false] 4)) := (Below.refl _ _).alloc (Nat.le_refl _) _
  have r0 := (Bk.fresh w 4 #[.bool false]).kept hB (by simp)
  have hBw := hB0.trans (hB.mono hB0.size)
  obtain ⟨q, hq⟩ : ∃ q, w.heap.size = q := ⟨_, rfl⟩
  rw [hq] at r0 ⊢
  clear hB hB0
  refine ⟨trivial, ?_⟩
  refine (callsIn_wide.2 (hlay.out _)).mono ?_
  rintro e w2 ⟨rfl, hO⟩
  replace r0 := r0.kept hO r0.lt
  replace hBw := hBw.trans (hO.mono hBw.size)
  clear hO
  gi_wp2_with (fail)
  refine ⟨trivial, ?_⟩
  refine (callsIn_wide.2 (hnew.out _)).mono ?_
  rintro e w3 ⟨p, b, rfl, hI, z1, z2, hO⟩
  replace r0 := r0.kept hO r0.lt
  have z1 : w.heap.size ≤ p := Nat.le_trans hBw.size z1
  have z2 : w.heap.size ≤ b := Nat.le_trans hBw.size z2
  have hqb : q ≠ b := by intro e; subst e; exact r0.ne hI.by_ (by decide) rfl
  replace hBw := hBw.trans (hO.mono hBw.size)
  clear hO
  obtain ⟨B, hBB⟩ : ∃ B, List.replicate L.b6 (0 : UInt8) = B := ⟨_, rfl⟩
  rw [hBB] at hI
  clear hBB
  gi_wp2_with (fail)
  refine ⟨trivial, ?_⟩
  refine (callsIn_wide.2 (dnew_any hI 3 (.inr rfl))).mono ?_
  rintro e w4 ⟨d, hd, rfl, D, hO⟩
  replace r0 := r0.kept hO r0.lt
  have hqd : q ≠ d := by intro e; subst e; exact r0.ne D.bk (by decide) rfl
  have z3 : w.heap.size ≤ d := Nat.le_trans hBw.size hd
  replace hBw := hBw.trans (hO.mono hBw.size)
  clear hO hd hI
  gi_wp2_with (fail)
  have b3 : (L.beg 3 + 8) = (L.beg 3 + 8) := rfl
  obtain ⟨f, hf⟩ : ∃ f, L.beg 3 + 8 = f := ⟨_, rfl⟩
  obtain ⟨y, hy⟩ : ∃ y, L.beg (3 + 1) = y := ⟨_, rfl⟩
  rw [hf, hy] at D
  have hf0 : 0 < f := by omega
  have kS : Bk (w4.alloc (.cells #[.slice none 0 0] 49)) w4.heap.size 49 #[.slice none 0 0] := Bk.fresh _ _ _
  have D4 := D.bel ((Below.refl w4.heap.size w4).alloc (Nat.le_refl _) (.cells #[.slice none 0 0] 49))
  have hB4 := hBw.alloc hBw.size (.cells #[.slice none 0 0] 49)
  have r4 := r0.past (.cells #[.slice none 0 0] 49)
  have hlb : w.heap.size ≤ w4.heap.size := hBw.size
  obtain ⟨W4, hW4⟩ : ∃ W4, w4.alloc (.cells #[.slice none 0 0] 49) = W4 := ⟨_, rfl⟩
  rw [hW4] at kS D4 hB4 r4 ⊢
  obtain ⟨lb, hlb'⟩ : ∃ lb, w4.heap.size = lb := ⟨_, rfl⟩
  rw [hlb'] at kS hlb ⊢
  clear hW4 hlb' r0 D hBw b3 hy
  gi_loopw [12, 13, 14, 15] (fun vh vl vk vi wr => ∃ (k : Nat) (hh ll kk : Int), vh = .int .i64 hh ∧ vl = .int .i64 ll ∧ vk = .int .i64 kk ∧ vi = .int .i64 k ∧ k ≤ n ∧
    Hid (∃ (h lt : Nat) (Bc : List UInt8) (X : List Wd) (A2 : Option Addr) (c2 : Nat), k ≤ 20 ∧ X.length ≤ k ∧ Dc wr d p b L 3 f y Bc false false h lt ∧ Chain Bc f y h lt X ∧ Bk wr lb 49 #[.slice A2 X.length c2] ∧ wr.ownsRow w.heap.size 34 6 (.slice A2 X.length c2) X.length (wdsC X.reverse) ∧ Bk wr q 4 #[.bool false] ∧ Below w.heap.size w wr ∧
      KeptAt f y Bc h X hh ll kk)) (fun _ _ _ vi _ => 20 - (intOf vi).toNat)
  case atStart =>
    refine ⟨0, 0, 0, -1, rfl, rfl, rfl, rfl, by omega, Lib.hid ⟨_, _, _, [], none, 0, by omega, by simp, D4, rfl, kS, World.ownsRow_nil _ _ _ _, r4, hB4, .inl rfl⟩⟩
  case round =>
    obtain ⟨k, hh, ll, kk, rfl, rfl, rfl, rfl, hk, hR⟩ := hrel
    have hR := hR.out
    obtain ⟨h, lt, Bc, X, A2, c2, hk20, hXk, D, hC, kS, hrow, r0, hB, hK⟩ := hR
    have nxt := fun i => ((hS.out).2 i)
    by_cases hgo : k < n ∧ k < 20
    · obtain ⟨g1, g2⟩ := hgo
      have g3 : (k : Int) < 20 := by omega
      have g4 : (k : Int) < n := by omega
      have s0 := kS.cell 0
      simp at s0
      gi_wp2_with (fail)
      refine ⟨trivial, ?_⟩
      refine (callsIn_wide.2 (pick_any bk 6 _ hbk.out.1 hbk.out.2 (by decide) (by decide))).mono ?_
      rintro e w5 ⟨rfl, hw5⟩
      have hw5 := hw5.symm
      subst hw5
      obtain ⟨pk, hpk⟩ : ∃ pk, pickN bk (6 : Int).toNat = pk := ⟨_, rfl⟩
      rw [hpk]
      clear hpk
      by_cases hkp : k = pk
      · subst hkp
        gi_wp2_with (fail)
        refine ⟨trivial, ?_⟩
        refine (callsIn_wide.2 (mark_any D)).mono ?_
        rintro e w6 ⟨rfl, n6, hw6⟩
        have s6 : w6.cell? ⟨lb, 0, none⟩ = some (.slice A2 X.length c2) := by rw [hw6, World.cell?_drewN]; exact s0
        have D := D.draws n6
        have kS := kS.draws n6
        have r0 := r0.draws n6
        have hrow := own_draws hrow n6
        have hB := below_drawn hB n6
        rw [← hw6] at D kS r0 hrow hB
        have hK : KeptAt f y Bc h X h lt (X.length : Nat) := KeptAt.now D.lo D.la hC
        clear hw6 s0
        gi_wp2_with (fail)
        refine ⟨trivial, ?_⟩
        refine (callsIn_wide.2 (here_any D)).mono ?_
        rintro e w7 ⟨rfl, rfl⟩
        obtain ⟨sb, so, nm, rfl, hsb, hsc, hss⟩ := nxt k g1
        have hsc7 := (hB.cell (p := ⟨sb, so + k, none⟩) hsb).trans hsc
        by_cases hnk : nameOk nm = true ∧ ¬ y < upN h + (8 + upN (1 + nm.size))
        · skip
          obtain ⟨hn1, hfit⟩ := hnk
          have hnz : 1 ≤ nm.size ∧ nm.size ≤ 31 := by
            have : 1 ≤ nm.size ∧ nm.size ≤ 31 ∧ stop isInk nm 0 = nm.size := by simpa [nameOk] using hn1
            exact ⟨this.1, this.2.1⟩
          have hcr := cr_yes D nm (Nat.le_trans hss (by decide)) hn1 hfit (show shut 3 false = false from rfl)
          have n1 := row_ne hrow D.im.by_ (by decide)
          have n2 := row_ne hrow D.bk (by decide)
          have hlbb : lb ≠ b := kS.ne D.im.by_ (by decide)
          have hlbd : lb ≠ d := kS.ne D.bk (by decide)
          have hlen := D.im.len
          have hok := D.ok
          have hu := upN_le h
          have hv := upN_le (1 + nm.size)
          have hlo := D.lo
          have hla := D.la
          have hlt := chain_lt (by omega) hlo hC
          have hC9 := chain_sh nm hnz.1 hnz.2 hlo hf0 hfit (by omega) (by omega) (by omega) hC
          have hK9 := hK.next (l := lt) ⟨nm, upN h, crH h nm.size, false, false, false⟩ nm (by omega) (by omega)
          clear hn1 hlen hok hu hv hlo hla hC hK hfit
          replace hcr := Lib.hid hcr
          replace hC9 := Lib.hid hC9
          replace hK9 := Lib.hid hK9
          replace n1 := Lib.hid n1
          replace n2 := Lib.hid n2
          replace hnz := Lib.hid hnz
          gi_wp2_with (fail)
          refine ⟨trivial, ?_⟩
          refine (callsIn_wide.2 hcr.out).mono ?_
          rintro e w8 ⟨rfl, D8, O8⟩
          have kS := O8.bk kS hlbb hlbd
          have r0 := O8.bk r0 hqb hqd
          have hrow := O8.row hrow n1.out n2.out
          have hB := hB.trans (O8.below z2 z3 hB.size)
          clear D O8 hcr hsc7
          gi_wp2_with (fail)
          refine ⟨trivial, ?_⟩
          refine (callsIn_wide.2 (flag_0 D8)).mono ?_
          rintro e w9 ⟨rfl, D9, O9⟩
          have hsh : shut 3 false = false := rfl
          rw [hsh] at D9
          clear hsh
          have kS := O9.bk kS hlbb hlbd
          have r0 := O9.bk r0 hqb hqd
          have hrow := O9.row hrow n1.out n2.out
          have hB := hB.trans (O9.below z2 z3 hB.size)
          clear D8 O9 hlbb hlbd
          obtain ⟨x, hx⟩ : ∃ x : Wd, (⟨nm, upN h, crH h nm.size, false, false, false⟩ : Wd) = x := ⟨_, rfl⟩
          obtain ⟨B9, hB9⟩ : ∃ B9, mkB 0 y (upN h) false (crB Bc h lt nm) = B9 := ⟨_, rfl⟩
          obtain ⟨l9, hl9⟩ : ∃ l9, upN h = l9 := ⟨_, rfl⟩
          obtain ⟨h9, hh9⟩ : ∃ h9, crH h nm.size = h9 := ⟨_, rfl⟩
          rw [hB9, hl9, hh9] at D9
          rw [hB9, hl9, hh9] at hC9
          rw [hB9, hh9, hl9] at hK9
          rw [hl9, hh9] at hx
          rw [hx] at hC9 hK9
          rw [hh9]
          clear hB9 hl9 hh9
          have hsc9 := (hB.cell (p := ⟨sb, so + k, none⟩) hsb).trans hsc
          have hT := turned_any nm bk w9 (Nat.le_trans hss (by decide)) hbk.out
          replace hT := Lib.hid hT
          gi_wp2_with (fail)
          refine ⟨trivial, ?_⟩
          refine (callsIn_wide.2 hT.out).mono ?_
          rintro e w10 ⟨⟨t, rfl, ht1, ht2⟩, hB10⟩
          have D := D9.bel hB10
          have kS := kS.kept hB10 kS.lt
          have r0 := r0.kept hB10 r0.lt
          have hrow := own_below hrow hB10 (Nat.le_refl _)
          have hB := hB.trans (hB10.mono hB.size)
          have hF := find_any D t (Nat.le_trans (Nat.le_of_eq ht1) (Nat.le_trans hss (by decide)))
          rw [find_first hf0 hC9.out (by rw [← hx]) (by rw [← hx]; exact ht2)] at hF
          simp only [Option.getD_some, Option.isSome_some, wdV] at hF
          rw [← hx] at hF
          simp only at hF
          replace hF := Lib.hid hF
          clear hT D9 hsc9 hB10 ht1 ht2
          gi_wp2_with (fail)
          refine ⟨trivial, ?_⟩
          refine (callsIn_wide.2 hF.out).mono ?_
          rintro e w11 ⟨rfl, hB11⟩
          have D := D.bel hB11
          have kS := kS.kept hB11 kS.lt
          have r0 := r0.kept hB11 r0.lt
          have hrow := own_below hrow hB11 (Nat.le_refl _)
          have hB := hB.trans (hB11.mono hB.size)
          clear hF hB11
          have e11 := Bk.fresh w11 34 (wdC wd0).toArray
          have hBa : Below w11.heap.size w11 (w11.alloc (.cells (wdC wd0).toArray 34)) := (Below.refl _ _).alloc (Nat.le_refl _) _
          obtain ⟨g, hg⟩ : ∃ g, w11.heap.size = g := ⟨_, rfl⟩
          obtain ⟨W, hW⟩ : ∃ W, w11.alloc (.cells (wdC wd0).toArray 34) = W := ⟨_, rfl⟩
          rw [hW] at hBa e11
          rw [hg] at e11
          have hW' : w11.alloc (.cells #[.string ⟨#[]⟩, .int .i64 0, .int .i64 0, .bool false, .bool false, .bool false] 34) = W := hW
          have hBx : Below w11.heap.size w11 (set6 W g x) := set6_below hBa (by omega)
          have bX : Bk (set6 W g x) g 34 (wdC x).toArray := set6_bk e11
          have D := D.bel hBx
          have kS := kS.kept hBx kS.lt
          have r0 := r0.kept hBx r0.lt
          have hrow := own_below hrow hBx (Nat.le_refl _)
          have hB := hB.trans (hBx.mono hB.size)
          have e0 := e11.cell 0
          have e1 := e11.cell 1
          have e2 := e11.cell 2
          have e3 := e11.cell 3
          have e4 := e11.cell 4
          have e5 := e11.cell 5
          simp [wdC, wd0] at e0 e1 e2 e3 e4 e5
          have f0 := e11.free 0
          have f1 := e11.free 1
          have f2 := e11.free 2
          have f3 := e11.free 3
          have f4 := e11.free 4
          have f5 := e11.free 5
          clear hBx hBa hW e11
          gi_wp2_with (fail)
          obtain ⟨V, hV⟩ : ∃ V, set6 W g x = V := ⟨_, rfl⟩
          rw [hV] at bX D kS r0 hrow hB
          rw [← hx] at hV bX
          unfold set6 at hV
          simp only at hV
          rw [hV]
          clear hV hW' e0 e1 e2 e3 e4 e5 f0 f1 f2 f3 f4 f5
          have x0 := bX.cell 0
          have x1 := bX.cell 1
          have x2 := bX.cell 2
          have x3 := bX.cell 3
          have x4 := bX.cell 4
          have x5 := bX.cell 5
          simp [wdC] at x0 x1 x2 x3 x4 x5
          have hscV := (hB.cell (p := ⟨sb, so + k, none⟩) hsb).trans hsc
          have s0 := kS.cell 0
          simp at s0
          have s1 := kS.free 0
          gi_quiet (fail)
          have D := D.draws nq
          have kS := kS.draws nq
          have r0 := r0.draws nq
          have hrow := own_draws hrow nq
          have hB := below_drawn hB nq
          obtain ⟨V2, hV2⟩ : ∃ V2, V.drewN nq = V2 := ⟨_, rfl⟩
          have s2 : V2.cell? ⟨lb, 0, none⟩ = some (.slice A2 X.length c2) := by rw [← hV2]; exact s0
          have y0 : V2.cell? ⟨g, 0, none⟩ = some (.string nm) := by rw [← hV2]; exact x0
          have y1 : V2.cell? ⟨g, 1, none⟩ = some (.int .i64 l9) := by rw [← hV2]; exact x1
          have y2 : V2.cell? ⟨g, 2, none⟩ = some (.int .i64 h9) := by rw [← hV2]; exact x2
          have y3 : V2.cell? ⟨g, 3, none⟩ = some (.bool false) := by rw [← hV2]; exact x3
          have y4 : V2.cell? ⟨g, 4, none⟩ = some (.bool false) := by rw [← hV2]; exact x4
          have y5 : V2.cell? ⟨g, 5, none⟩ = some (.bool false) := by rw [← hV2]; exact x5
          rw [hV2] at D kS r0 hrow hB
          rw [hV2]
          clear hV2 x0 x1 x2 x3 x4 x5 s0 s1
          have hrowr : V2.ownsRow w.heap.size 34 6 (.slice A2 X.length c2) X.reverse.length (wdsC X.reverse) := by rw [List.length_reverse]; exact hrow
          obtain ⟨A3, c3, w4, hrun, hown, hgr⟩ := wd_append x hrowr hB.size (by rw [List.length_reverse]; omega)
          have he : X.reverse ++ [x] = (x :: X).reverse := by simp
          have hel : (X.reverse ++ [x]).length = X.length + 1 := by simp
          rw [hel] at hrun hown
          rw [he] at hown
          have m1 := row_ne hrow D.im.by_ (by decide)
          have m2 := row_ne hrow D.bk (by decide)
          have m3 := row_ne hrow D.im.st (by decide)
          have m4 := row_ne hrow kS (by decide)
          have m5 := row_ne hrow r0 (by decide)
          have D := D.grown hgr m3 m1 m2
          have kS := kS.grown hgr m4.symm
          have r0 := r0.grown hgr m5.symm
          have hB := below_grown hB hgr hB.size (fun q hq => own_ge hrow q hq)
          have D := D.far (q := ⟨lb, 0, none⟩) (kS.ne D.im.st (by decide)).symm (kS.ne D.im.by_ (by decide)).symm (kS.ne D.bk (by decide)).symm (.slice A3 (X.length + 1) c3)
          have r0 := r0.other (p := ⟨lb, 0, none⟩) (kS.ne r0 (by decide)).symm (.slice A3 (X.length + 1) c3)
          have hown := Onb.row (b := lb) (d := lb) (Onb.ofd ((Only.refl lb w4).put 0 (.slice A3 (X.length + 1) c3))) hown (row_ne hown kS (by decide)) (row_ne hown kS (by decide))
          have hB := hB.setCell (p := ⟨lb, 0, none⟩) hlb (.slice A3 (X.length + 1) c3)
          have t0 := kS.cell 0
          simp at t0
          have t1 := kS.free 0
          have kS := kS.put 0 (.slice A3 (X.length + 1) c3)
          have hR : Hid (∃ (h1 lt1 : Nat) (B1 : List UInt8) (X1 : List Wd) (A2 : Option Addr) (c2 : Nat), k + 1 ≤ 20 ∧ X1.length ≤ k + 1 ∧ Dc (w4.setCell ⟨lb, 0, none⟩ (.slice A3 (X.length + 1) c3)) d p b L 3 f y B1 false false h1 lt1 ∧ Chain B1 f y h1 lt1 X1 ∧ Bk (w4.setCell ⟨lb, 0, none⟩ (.slice A3 (X.length + 1) c3)) lb 49 #[.slice A2 X1.length c2] ∧ (w4.setCell ⟨lb, 0, none⟩ (.slice A3 (X.length + 1) c3)).ownsRow w.heap.size 34 6 (.slice A2 X1.length c2) X1.length (wdsC X1.reverse) ∧ Bk (w4.setCell ⟨lb, 0, none⟩ (.slice A3 (X.length + 1) c3)) q 4 #[.bool false] ∧ Below w.heap.size w (w4.setCell ⟨lb, 0, none⟩ (.slice A3 (X.length + 1) c3)) ∧ KeptAt f y B1 h1 X1 (h : Int) (lt : Int) ((X.length : Nat) : Int)) := ⟨h9, l9, B9, x :: X, A3, c3, by omega, by simp; omega, D, hC9.out, kS, hown, r0, hB, hK9.out⟩
          rw [← hx] at hrun
          unfold wdC at hrun
          simp only at hrun
          replace hrun := Lib.hid hrun
          clear hrowr hown hgr he hel m1 m2 m3 m4 m5 D kS r0 hB hrow hC9 hK9 bX
          gi_wp2_with (gi_at_builtin; refine wpListIn_append_run rfl (.tmp 144) (.tmp 146) 49 rfl (.slice A2 X.length c2) _ _ rfl rfl hrun.out ?_)
          exact ⟨⟨k + 1, (h : Int), (lt : Int), ((X.length : Nat) : Int), rfl, rfl, rfl, by simp, by omega, hR⟩, by simp [intOf]; omega⟩
        · have hcr : ∃ ff : Int, (ff = 15 ∨ ff = 9) ∧ Calls Try.prog 14 #[.pointer (some ⟨d, 0, none⟩), .string nm] w7 fun e w' => e = .returned (.tuple #[.int .i64 0, .int .i64 ff]) ∧ Below w7.heap.size w7 w' := by
            by_cases hk1 : nameOk nm = true
            · exact ⟨9, .inr rfl, cr_full D nm (Nat.le_trans hss (by decide)) hk1 (by simp only [hk1, true_and, Classical.not_not] at hnk; exact hnk)⟩
            · exact ⟨15, .inl rfl, cr_name D nm (Nat.le_trans hss (by decide)) (by simpa using hk1)⟩
          obtain ⟨ff, hff, hcr⟩ := hcr
          replace hcr := Lib.hid hcr
          clear hnk
          gi_wp2_with (fail)
          refine ⟨trivial, ?_⟩
          refine (callsIn_wide.2 hcr.out).mono ?_
          rintro e w8 ⟨rfl, hB8⟩
          have D := D.bel hB8
          have kS := kS.kept hB8 kS.lt
          have r0 := r0.kept hB8 r0.lt
          have hrow := own_below hrow hB8 (Nat.le_refl _)
          have hB := hB.trans (hB8.mono hB.size)
          have hR : Hid (∃ (h1 lt1 : Nat) (B1 : List UInt8) (X1 : List Wd) (A2 : Option Addr) (c2 : Nat), k + 1 ≤ 20 ∧ X1.length ≤ k + 1 ∧ Dc w8 d p b L 3 f y B1 false false h1 lt1 ∧ Chain B1 f y h1 lt1 X1 ∧ Bk w8 lb 49 #[.slice A2 X1.length c2] ∧ w8.ownsRow w.heap.size 34 6 (.slice A2 X1.length c2) X1.length (wdsC X1.reverse) ∧ Bk w8 q 4 #[.bool false] ∧ Below w.heap.size w w8 ∧ KeptAt f y B1 h1 X1 (h : Int) (lt : Int) ((X.length : Nat) : Int)) := ⟨h, lt, Bc, X, A2, c2, by omega, by omega, D, hC, kS, hrow, r0, hB, hK⟩
          clear hB8 hcr hsc7 hsc nxt hC hK hrow r0 kS hB
          rcases hff with rfl | rfl
          all_goals
            gi_wp2_with (fail)
            refine ⟨trivial, ?_⟩
            refine (callsIn_wide.2 (here_any D)).mono ?_
            rintro e w9 ⟨rfl, rfl⟩
            clear D
            gi_wp2_with (fail)
            exact ⟨⟨k + 1, (h : Int), (lt : Int), ((X.length : Nat) : Int), rfl, rfl, rfl, by simp, by omega, hR⟩, by simp [intOf]; omega⟩
      · clear s0
        gi_wp2_with (fail)
        refine ⟨trivial, ?_⟩
        refine (callsIn_wide.2 (here_any D)).mono ?_
        rintro e w7 ⟨rfl, rfl⟩
        obtain ⟨sb, so, nm, rfl, hsb, hsc, hss⟩ := nxt k g1
        have hsc7 := (hB.cell (p := ⟨sb, so + k, none⟩) hsb).trans hsc
        by_cases hnk : nameOk nm = true ∧ ¬ y < upN h + (8 + upN (1 + nm.size))
        · skip
          obtain ⟨hn1, hfit⟩ := hnk
          have hnz : 1 ≤ nm.size ∧ nm.size ≤ 31 := by
            have : 1 ≤ nm.size ∧ nm.size ≤ 31 ∧ stop isInk nm 0 = nm.size := by simpa [nameOk] using hn1
            exact ⟨this.1, this.2.1⟩
          have hcr := cr_yes D nm (Nat.le_trans hss (by decide)) hn1 hfit (show shut 3 false = false from rfl)
          have n1 := row_ne hrow D.im.by_ (by decide)
          have n2 := row_ne hrow D.bk (by decide)
          have hlbb : lb ≠ b := kS.ne D.im.by_ (by decide)
          have hlbd : lb ≠ d := kS.ne D.bk (by decide)
          have hlen := D.im.len
          have hok := D.ok
          have hu := upN_le h
          have hv := upN_le (1 + nm.size)
          have hlo := D.lo
          have hla := D.la
          have hlt := chain_lt (by omega) hlo hC
          have hC9 := chain_sh nm hnz.1 hnz.2 hlo hf0 hfit (by omega) (by omega) (by omega) hC
          have hK9 := hK.next (l := lt) ⟨nm, upN h, crH h nm.size, false, false, false⟩ nm (by omega) (by omega)
          clear hn1 hlen hok hu hv hlo hla hC hK hfit
          replace hcr := Lib.hid hcr
          replace hC9 := Lib.hid hC9
          replace hK9 := Lib.hid hK9
          replace n1 := Lib.hid n1
          replace n2 := Lib.hid n2
          replace hnz := Lib.hid hnz
          gi_wp2_with (fail)
          refine ⟨trivial, ?_⟩
          refine (callsIn_wide.2 hcr.out).mono ?_
          rintro e w8 ⟨rfl, D8, O8⟩
          have kS := O8.bk kS hlbb hlbd
          have r0 := O8.bk r0 hqb hqd
          have hrow := O8.row hrow n1.out n2.out
          have hB := hB.trans (O8.below z2 z3 hB.size)
          clear D O8 hcr hsc7
          gi_wp2_with (fail)
          refine ⟨trivial, ?_⟩
          refine (callsIn_wide.2 (flag_0 D8)).mono ?_
          rintro e w9 ⟨rfl, D9, O9⟩
          have hsh : shut 3 false = false := rfl
          rw [hsh] at D9
          clear hsh
          have kS := O9.bk kS hlbb hlbd
          have r0 := O9.bk r0 hqb hqd
          have hrow := O9.row hrow n1.out n2.out
          have hB := hB.trans (O9.below z2 z3 hB.size)
          clear D8 O9 hlbb hlbd
          obtain ⟨x, hx⟩ : ∃ x : Wd, (⟨nm, upN h, crH h nm.size, false, false, false⟩ : Wd) = x := ⟨_, rfl⟩
          obtain ⟨B9, hB9⟩ : ∃ B9, mkB 0 y (upN h) false (crB Bc h lt nm) = B9 := ⟨_, rfl⟩
          obtain ⟨l9, hl9⟩ : ∃ l9, upN h = l9 := ⟨_, rfl⟩
          obtain ⟨h9, hh9⟩ : ∃ h9, crH h nm.size = h9 := ⟨_, rfl⟩
          rw [hB9, hl9, hh9] at D9
          rw [hB9, hl9, hh9] at hC9
          rw [hB9, hh9, hl9] at hK9
          rw [hl9, hh9] at hx
          rw [hx] at hC9 hK9
          rw [hh9]
          clear hB9 hl9 hh9
          have hsc9 := (hB.cell (p := ⟨sb, so + k, none⟩) hsb).trans hsc
          have hT := turned_any nm bk w9 (Nat.le_trans hss (by decide)) hbk.out
          replace hT := Lib.hid hT
          gi_wp2_with (fail)
          refine ⟨trivial, ?_⟩
          refine (callsIn_wide.2 hT.out).mono ?_
          rintro e w10 ⟨⟨t, rfl, ht1, ht2⟩, hB10⟩
          have D := D9.bel hB10
          have kS := kS.kept hB10 kS.lt
          have r0 := r0.kept hB10 r0.lt
          have hrow := own_below hrow hB10 (Nat.le_refl _)
          have hB := hB.trans (hB10.mono hB.size)
          have hF := find_any D t (Nat.le_trans (Nat.le_of_eq ht1) (Nat.le_trans hss (by decide)))
          rw [find_first hf0 hC9.out (by rw [← hx]) (by rw [← hx]; exact ht2)] at hF
          simp only [Option.getD_some, Option.isSome_some, wdV] at hF
          rw [← hx] at hF
          simp only at hF
          replace hF := Lib.hid hF
          clear hT D9 hsc9 hB10 ht1 ht2
          gi_wp2_with (fail)
          refine ⟨trivial, ?_⟩
          refine (callsIn_wide.2 hF.out).mono ?_
          rintro e w11 ⟨rfl, hB11⟩
          have D := D.bel hB11
          have kS := kS.kept hB11 kS.lt
          have r0 := r0.kept hB11 r0.lt
          have hrow := own_below hrow hB11 (Nat.le_refl _)
          have hB := hB.trans (hB11.mono hB.size)
          clear hF hB11
          have e11 := Bk.fresh w11 34 (wdC wd0).toArray
          have hBa : Below w11.heap.size w11 (w11.alloc (.cells (wdC wd0).toArray 34)) := (Below.refl _ _).alloc (Nat.le_refl _) _
          obtain ⟨g, hg⟩ : ∃ g, w11.heap.size = g := ⟨_, rfl⟩
          obtain ⟨W, hW⟩ : ∃ W, w11.alloc (.cells (wdC wd0).toArray 34) = W := ⟨_, rfl⟩
          rw [hW] at hBa e11
          rw [hg] at e11
          have hW' : w11.alloc (.cells #[.string ⟨#[]⟩, .int .i64 0, .int .i64 0, .bool false, .bool false, .bool false] 34) = W := hW
          have hBx : Below w11.heap.size w11 (set6 W g x) := set6_below hBa (by omega)
          have bX : Bk (set6 W g x) g 34 (wdC x).toArray := set6_bk e11
          have D := D.bel hBx
          have kS := kS.kept hBx kS.lt
          have r0 := r0.kept hBx r0.lt
          have hrow := own_below hrow hBx (Nat.le_refl _)
          have hB := hB.trans (hBx.mono hB.size)
          have e0 := e11.cell 0
          have e1 := e11.cell 1
          have e2 := e11.cell 2
          have e3 := e11.cell 3
          have e4 := e11.cell 4
          have e5 := e11.cell 5
          simp [wdC, wd0] at e0 e1 e2 e3 e4 e5
          have f0 := e11.free 0
          have f1 := e11.free 1
          have f2 := e11.free 2
          have f3 := e11.free 3
          have f4 := e11.free 4
          have f5 := e11.free 5
          clear hBx hBa hW e11
          gi_wp2_with (fail)
          obtain ⟨V, hV⟩ : ∃ V, set6 W g x = V := ⟨_, rfl⟩
          rw [hV] at bX D kS r0 hrow hB
          rw [← hx] at hV bX
          unfold set6 at hV
          simp only at hV
          rw [hV]
          clear hV hW' e0 e1 e2 e3 e4 e5 f0 f1 f2 f3 f4 f5
          have x0 := bX.cell 0
          have x1 := bX.cell 1
          have x2 := bX.cell 2
          have x3 := bX.cell 3
          have x4 := bX.cell 4
          have x5 := bX.cell 5
          simp [wdC] at x0 x1 x2 x3 x4 x5
          have hscV := (hB.cell (p := ⟨sb, so + k, none⟩) hsb).trans hsc
          have s0 := kS.cell 0
          simp at s0
          have s1 := kS.free 0
          gi_quiet (fail)
          have D := D.draws nq
          have kS := kS.draws nq
          have r0 := r0.draws nq
          have hrow := own_draws hrow nq
          have hB := below_drawn hB nq
          obtain ⟨V2, hV2⟩ : ∃ V2, V.drewN nq = V2 := ⟨_, rfl⟩
          have s2 : V2.cell? ⟨lb, 0, none⟩ = some (.slice A2 X.length c2) := by rw [← hV2]; exact s0
          have y0 : V2.cell? ⟨g, 0, none⟩ = some (.string nm) := by rw [← hV2]; exact x0
          have y1 : V2.cell? ⟨g, 1, none⟩ = some (.int .i64 l9) := by rw [← hV2]; exact x1
          have y2 : V2.cell? ⟨g, 2, none⟩ = some (.int .i64 h9) := by rw [← hV2]; exact x2
          have y3 : V2.cell? ⟨g, 3, none⟩ = some (.bool false) := by rw [← hV2]; exact x3
          have y4 : V2.cell? ⟨g, 4, none⟩ = some (.bool false) := by rw [← hV2]; exact x4
          have y5 : V2.cell? ⟨g, 5, none⟩ = some (.bool false) := by rw [← hV2]; exact x5
          rw [hV2] at D kS r0 hrow hB
          rw [hV2]
          clear hV2 x0 x1 x2 x3 x4 x5 s0 s1
          have hrowr : V2.ownsRow w.heap.size 34 6 (.slice A2 X.length c2) X.reverse.length (wdsC X.reverse) := by rw [List.length_reverse]; exact hrow
          obtain ⟨A3, c3, w4, hrun, hown, hgr⟩ := wd_append x hrowr hB.size (by rw [List.length_reverse]; omega)
          have he : X.reverse ++ [x] = (x :: X).reverse := by simp
          have hel : (X.reverse ++ [x]).length = X.length + 1 := by simp
          rw [hel] at hrun hown
          rw [he] at hown
          have m1 := row_ne hrow D.im.by_ (by decide)
          have m2 := row_ne hrow D.bk (by decide)
          have m3 := row_ne hrow D.im.st (by decide)
          have m4 := row_ne hrow kS (by decide)
          have m5 := row_ne hrow r0 (by decide)
          have D := D.grown hgr m3 m1 m2
          have kS := kS.grown hgr m4.symm
          have r0 := r0.grown hgr m5.symm
          have hB := below_grown hB hgr hB.size (fun q hq => own_ge hrow q hq)
          have D := D.far (q := ⟨lb, 0, none⟩) (kS.ne D.im.st (by decide)).symm (kS.ne D.im.by_ (by decide)).symm (kS.ne D.bk (by decide)).symm (.slice A3 (X.length + 1) c3)
          have r0 := r0.other (p := ⟨lb, 0, none⟩) (kS.ne r0 (by decide)).symm (.slice A3 (X.length + 1) c3)
          have hown := Onb.row (b := lb) (d := lb) (Onb.ofd ((Only.refl lb w4).put 0 (.slice A3 (X.length + 1) c3))) hown (row_ne hown kS (by decide)) (row_ne hown kS (by decide))
          have hB := hB.setCell (p := ⟨lb, 0, none⟩) hlb (.slice A3 (X.length + 1) c3)
          have t0 := kS.cell 0
          simp at t0
          have t1 := kS.free 0
          have kS := kS.put 0 (.slice A3 (X.length + 1) c3)
          have hR : Hid (∃ (h1 lt1 : Nat) (B1 : List UInt8) (X1 : List Wd) (A2 : Option Addr) (c2 : Nat), k + 1 ≤ 20 ∧ X1.length ≤ k + 1 ∧ Dc (w4.setCell ⟨lb, 0, none⟩ (.slice A3 (X.length + 1) c3)) d p b L 3 f y B1 false false h1 lt1 ∧ Chain B1 f y h1 lt1 X1 ∧ Bk (w4.setCell ⟨lb, 0, none⟩ (.slice A3 (X.length + 1) c3)) lb 49 #[.slice A2 X1.length c2] ∧ (w4.setCell ⟨lb, 0, none⟩ (.slice A3 (X.length + 1) c3)).ownsRow w.heap.size 34 6 (.slice A2 X1.length c2) X1.length (wdsC X1.reverse) ∧ Bk (w4.setCell ⟨lb, 0, none⟩ (.slice A3 (X.length + 1) c3)) q 4 #[.bool false] ∧ Below w.heap.size w (w4.setCell ⟨lb, 0, none⟩ (.slice A3 (X.length + 1) c3)) ∧ KeptAt f y B1 h1 X1 hh ll kk) := ⟨h9, l9, B9, x :: X, A3, c3, by omega, by simp; omega, D, hC9.out, kS, hown, r0, hB, hK9.out⟩
          rw [← hx] at hrun
          unfold wdC at hrun
          simp only at hrun
          replace hrun := Lib.hid hrun
          clear hrowr hown hgr he hel m1 m2 m3 m4 m5 D kS r0 hB hrow hC9 hK9 bX
          gi_wp2_with (gi_at_builtin; refine wpListIn_append_run rfl (.tmp 144) (.tmp 146) 49 rfl (.slice A2 X.length c2) _ _ rfl rfl hrun.out ?_)
          exact ⟨⟨k + 1, hh, ll, kk, rfl, rfl, rfl, by simp, by omega, hR⟩, by simp [intOf]; omega⟩
        · have hcr : ∃ ff : Int, (ff = 15 ∨ ff = 9) ∧ Calls Try.prog 14 #[.pointer (some ⟨d, 0, none⟩), .string nm] w7 fun e w' => e = .returned (.tuple #[.int .i64 0, .int .i64 ff]) ∧ Below w7.heap.size w7 w' := by
            by_cases hk1 : nameOk nm = true
            · exact ⟨9, .inr rfl, cr_full D nm (Nat.le_trans hss (by decide)) hk1 (by simp only [hk1, true_and, Classical.not_not] at hnk; exact hnk)⟩
            · exact ⟨15, .inl rfl, cr_name D nm (Nat.le_trans hss (by decide)) (by simpa using hk1)⟩
          obtain ⟨ff, hff, hcr⟩ := hcr
          replace hcr := Lib.hid hcr
          clear hnk
          gi_wp2_with (fail)
          refine ⟨trivial, ?_⟩
          refine (callsIn_wide.2 hcr.out).mono ?_
          rintro e w8 ⟨rfl, hB8⟩
          have D := D.bel hB8
          have kS := kS.kept hB8 kS.lt
          have r0 := r0.kept hB8 r0.lt
          have hrow := own_below hrow hB8 (Nat.le_refl _)
          have hB := hB.trans (hB8.mono hB.size)
          have hR : Hid (∃ (h1 lt1 : Nat) (B1 : List UInt8) (X1 : List Wd) (A2 : Option Addr) (c2 : Nat), k + 1 ≤ 20 ∧ X1.length ≤ k + 1 ∧ Dc w8 d p b L 3 f y B1 false false h1 lt1 ∧ Chain B1 f y h1 lt1 X1 ∧ Bk w8 lb 49 #[.slice A2 X1.length c2] ∧ w8.ownsRow w.heap.size 34 6 (.slice A2 X1.length c2) X1.length (wdsC X1.reverse) ∧ Bk w8 q 4 #[.bool false] ∧ Below w.heap.size w w8 ∧ KeptAt f y B1 h1 X1 hh ll kk) := ⟨h, lt, Bc, X, A2, c2, by omega, by omega, D, hC, kS, hrow, r0, hB, hK⟩
          clear hB8 hcr hsc7 hsc nxt hC hK hrow r0 kS hB
          rcases hff with rfl | rfl
          all_goals
            gi_wp2_with (fail)
            refine ⟨trivial, ?_⟩
            refine (callsIn_wide.2 (here_any D)).mono ?_
            rintro e w9 ⟨rfl, rfl⟩
            clear D
            gi_wp2_with (fail)
            exact ⟨⟨k + 1, hh, ll, kk, rfl, rfl, rfl, by simp, by omega, hR⟩, by simp [intOf]; omega⟩
    · skip
      have htest : (decide ((k : Int) < n)) = false ∨ (decide ((k : Int) < n)) = true ∧ (decide ((k : Int) < 20)) = false := by
        by_cases h1 : (k : Int) < n
        · exact .inr ⟨decide_eq_true h1, decide_eq_false (by omega)⟩
        · exact .inl (decide_eq_false h1)
      have s0 := kS.cell 0
      simp at s0
      clear nxt
      have hcl0 := kS.lt
      have hX20 : X.length ≤ 20 := by omega
      have h20 : (k : Int) < n → ¬ (k : Int) < 20 := by omega
      clear hz hlay hnew hok hbk
      have hT : Hid (X.length ≤ 20 ∧ KeptAt f y Bc h X hh ll kk ∧ Chain Bc f y h lt X) := ⟨by omega, hK, hC⟩
      clear hK hC hk hXk hX20 hgo hk20
      have htest2 : (¬ (k : Int) < n) ∨ ((k : Int) < n ∧ ¬ (k : Int) < 20) := by
        by_cases h1 : (k : Int) < n
        · exact .inr ⟨h1, h20 h1⟩
        · exact .inl h1
      clear h20 htest
      rcases htest2 with ht1 | ⟨ht1, ht2⟩
      all_goals
        gi_wp2_with (fail)
        refine ⟨trivial, ?_⟩
        refine (callsIn_wide.2 (all_any d _)).mono ?_
        rintro e w5 ⟨rfl, hw5⟩
        have a1 := Bk.fresh wr 3 #[.int .i64 X.length]
        have a2 := Bk.fresh (wr.alloc (.cells #[.int .i64 X.length] 3)) 30 #[.pointer (some ⟨d, 0, none⟩)]
        have hB5 : Below wr.heap.size wr w5 := by rw [hw5]; exact ((Below.refl _ _).alloc (Nat.le_refl _) _).alloc (by simp) _
        have a1 := a1.past (.cells #[.pointer (some ⟨d, 0, none⟩)] 30)
        rw [← hw5] at a1 a2
        rw [World.size_alloc] at a2
        have hz5 : w5.heap.size = wr.heap.size + 2 := by rw [hw5]; simp
        have D := D.bel hB5
        have kS := kS.kept hB5 kS.lt
        have r0 := r0.kept hB5 r0.lt
        have hrow := own_below hrow hB5 (Nat.le_refl _)
        have hBb := hB.size
        have hB := hB.trans (hB5.mono hB.size)
        have hcl : lb < wr.heap.size := hcl0
        obtain ⟨cx, hcx⟩ : ∃ cx, wr.heap.size = cx := ⟨_, rfl⟩
        rw [World.size_alloc]
        rw [hcx] at a1 a2 hz5 hBb hcl ⊢
        clear hw5 hB5 s0 hcl0
        gi_wp2_with (fail)
        clear ht1
        try clear ht2
        obtain ⟨hX20, hK, hC⟩ := hT.out
        clear hT
        have hwk := chain_walkP hf0 hC
        have hIw : Iw w w5.heap.size cx lb q A2 c2 X X d p b L f y Bc h lt [] w5 := ⟨List.nil_prefix, a1, kS, hrow, r0, hB, D, Nat.le_refl _⟩
        have hwc : w.heap.size ≤ cx := hBb
        have hcx1 : cx < w5.heap.size := by omega
        have hq5 := r0.lt
        have hqw : w.heap.size ≤ q := Nat.le_of_eq hq
        have hB5z : w.heap.size ≤ w5.heap.size := hB.size
        clear hz5
        refine range_all 6 152 22 (cx + 1) (by decide) (fun i => i = cx) (fun i e => by rw [e]; exact hcx1) rfl rfl D a2 (Iw w w5.heap.size cx lb q A2 c2 X X d p b L f y Bc h lt) (fun c pre W => c = .ret ∧ ¬ pre.map (·.1) <+: X) (Iw.own _ hIw.bel.size) (fun c => ownFrom_pure _ _) hIw ?assign ?body ?done ?stop
        case assign =>
          rintro l pre x W K hi hK
          have r0 := Bk.fresh W 34 (wdC wd0).toArray
          have hBa : Below W.heap.size W (W.alloc (.cells (wdC wd0).toArray 34)) := (Below.refl _ _).alloc (Nat.le_refl _) _
          obtain ⟨g, hg⟩ : ∃ g, W.heap.size = g := ⟨_, rfl⟩
          obtain ⟨V, hV⟩ : ∃ V, W.alloc (.cells (wdC wd0).toArray 34) = V := ⟨_, rfl⟩
          rw [hV] at r0 hBa
          rw [hg] at r0
          have hV' : W.alloc (.cells #[.string ⟨#[]⟩, .int .i64 0, .int .i64 0, .bool false, .bool false, .bool false] 34) = V := hV
          have hB6 : Below W.heap.size W (set6 V g x.1) := set6_below hBa (by omega)
          have hKK := hK g (set6 V g x.1) (by rw [← hg]; exact hi.lo) (set6_bk (y := x.1) r0) (KeepsFrom.of_grownBy (grown_below hB6) (by simp)) (Kc.of_below hB6) (hi.kept hB6)
          have e0 := r0.cell 0
          have e1 := r0.cell 1
          have e2 := r0.cell 2
          have e3 := r0.cell 3
          have e4 := r0.cell 4
          have e5 := r0.cell 5
          simp [wdC, wd0] at e0 e1 e2 e3 e4 e5
          have f0 := r0.free 0
          have f1 := r0.free 1
          have f2 := r0.free 2
          have f3 := r0.free 3
          have f4 := r0.free 4
          have f5 := r0.free 5
          unfold set6 at hKK
          replace hKK := Lib.hid hKK
          clear hV hB6 hBa r0 hK hi
          simp only [wdV, List.setIfInBounds_toArray, List.set_cons_zero, List.set_cons_succ] at hKK ⊢
          gi_wp2
          exact hKK.out
        case body =>
          rintro l' pre x Bx W hl hBx bX hi hlt
          rw [hwk] at hlt
          obtain ⟨yy, hyy⟩ : ∃ yy, X[pre.length]? = some yy := ⟨_, List.getElem?_eq_getElem hlt⟩
          have hdd := (fun (V : World) (h : KeepsOthers W V) => trivial)
          have hPs := pre_snoc hi.pfx x
          have hno := not_pre x hyy
          obtain ⟨j, hj⟩ : ∃ j, X.length - (pre.length + 1) = j := ⟨_, rfl⟩
          have hj1 : ((X.length - pre.length : Nat) : Int) = j + 1 := by omega
          have hj2 : X.length - (pre ++ [x]).length = j := by rw [List.length_append]; exact hj
          obtain ⟨q1, q2, q3, q4, q5, q6, q7⟩ := hi.put hwc (.int .i64 (j : Int))
          obtain ⟨gq, hA2, hcell⟩ := row_cell (Y := []) (List.nil_append X).symm q3 hyy
          have hjX : j < X.length := by have := congrArg List.length (show X = [] ++ X from (List.nil_append X).symm); rw [List.length_append] at this; omega
          have hjI : (j : Int) < X.length := by omega
          have c0 := hi.cnt.cell 0
          simp at c0
          rw [hj1] at c0
          have c1 := hi.cnt.free 0
          rw [hj] at hcell
          have hbc : Bx ≠ cx := by have := hi.cnt.lt; have := hi.lo; omega
          have bX := bX.other (p := ⟨cx, 0, none⟩) hbc (.int .i64 (j : Int))
          have w1 : IntKind.i64.wrap ((j : Int) + 1 - 1) = j := by rw [IntKind.wrap_i64]; omega
          simp only [wdV, List.setIfInBounds_toArray, List.set_cons_zero, List.set_cons_succ]
          replace hPs := Lib.hid hPs
          replace hno := Lib.hid hno
          replace hA2 := Lib.hid hA2
          replace hj2 := Lib.hid hj2
          clear hi hj hj1 hlt
          gi_wp2_with (fail)
          obtain ⟨W2, hW2⟩ : ∃ W2, W.setCell ⟨cx, 0, none⟩ (.int .i64 (j : Int)) = W2 := ⟨_, rfl⟩
          rw [hW2] at q1 q2 q3 q4 q5 q6 q7 bX
          have hK2 : KeepsFrom w5.heap.size W W2 ∧ Kc (fun i => i = cx) W W2 := by rw [← hW2]; exact ⟨(KeepsOthers.setCell _ _ _).from _, Kc.of_set cx (q := ⟨cx, 0, none⟩) _ rfl⟩
          replace hK2 := Lib.hid hK2
          have hdd2 := Lib.hid (hdd W2 (by rw [← hW2]; exact KeepsOthers.setCell _ _ _))
          rw [hW2]
          clear hdd
          simp only [hW2] at hcell
          clear hW2 c0 c1 w1
          have y0 := q1.cell 0
          simp at y0
          have b0 := bX.cell 0
          have b1 := bX.cell 1
          have b2 := bX.cell 2
          have b3 := bX.cell 3
          have b4 := bX.cell 4
          have b5 := bX.cell 5
          simp [wdC] at b0 b1 b2 b3 b4 b5
          have z0 : W2.cell? ⟨gq, j * 6, none⟩ = some (.string yy.name) := hcell 0 (by omega)
          have z1 : W2.cell? ⟨gq, j * 6 + 1, none⟩ = some (.int .i64 yy.hd) := hcell 1 (by omega)
          have z2 : W2.cell? ⟨gq, j * 6 + 2, none⟩ = some (.int .i64 yy.xt) := hcell 2 (by omega)
          have z3 : W2.cell? ⟨gq, j * 6 + 3, none⟩ = some (.bool yy.imm) := hcell 3 (by omega)
          have z4 : W2.cell? ⟨gq, j * 6 + 4, none⟩ = some (.bool yy.hid) := hcell 4 (by omega)
          have z5 : W2.cell? ⟨gq, j * 6 + 5, none⟩ = some (.bool yy.inl) := hcell 5 (by omega)
          have s0 := q2.cell 0
          simp at s0
          rw [hA2.out] at s0
          have r6 := q4.cell 0
          simp at r6
          have r7 := q4.free 0
          obtain ⟨bb, hbb⟩ : ∃ bb, eqW ⟨x.1.name, x.1.hd, x.1.xt, x.1.imm, x.1.hid, x.1.inl⟩ ⟨yy.name, yy.hd, yy.xt, yy.imm, yy.hid, yy.inl⟩ = bb := ⟨_, rfl⟩
          clear hcell
          have hj0 : (0 : Int) ≤ j := by omega
          have hj00 : ¬ (j : Int) < 0 := by omega
          cases bb
          all_goals
            refine region_round rfl (by kernel_rfl) (by kernel_rfl) (by kernel_rfl) ?_
            repeat (gi_big_quiet_step (fail))
            refine wpQuietIn_nil ?_
            rintro _ ⟨nq, rfl⟩
            have hKF := hK2.out.1.trans (KeepsFrom.of_grownBy (grown_below (below_drawn (Below.refl _ W2) nq)) (by simp))
            have hKC := hK2.out.2.t (Kc.of_below (below_drawn (Below.refl _ W2) nq))
            replace hKF := Lib.hid hKF
            replace hKC := Lib.hid hKC
            gi_wp2_with (fail)
            first
            | exact ⟨hKF.out.trans ((KeepsOthers.setCell _ _ _).from _), rfl, hno.out (fun e => by
                have := (eqW_iff _ _).2 e
                rw [show eqW x.1 yy = false from hbb] at this
                cases this)⟩
            | exact ⟨hKF.out, hKC.out, hPs.out (by rw [hyy]; exact congrArg some ((eqW_iff _ _).1 hbb).symm), by rw [hj2.out]; exact q1.draws nq, q2.draws nq, own_draws q3 nq, q4.draws nq, below_drawn q5 nq, q6.draws nq, q7⟩
            | exact ⟨hKF.out, hKC.out, ⟨hPs.out (by rw [hyy]; exact congrArg some ((eqW_iff _ _).1 hbb).symm), by rw [hj2.out]; exact q1.draws nq, q2.draws nq, own_draws q3 nq, q4.draws nq, below_drawn q5 nq, q6.draws nq, q7⟩, hdd2.out⟩
        case done =>
          rintro D' ys W hD hys hi hW
          have hyl : ys.length = X.length := by rw [← hwk, ← hys, List.length_map]
          have c0 := hi.cnt.cell 0
          simp at c0
          rw [hyl, Nat.sub_self] at c0
          have r6 := hi.res.cell 0
          simp at r6
          have r7 := hi.res.free 0
          have hqD : q ≠ D' := by omega
          have hwD : w.heap.size ≤ D' := by omega
          rcases hK with hK | ⟨Y, Z, h0, l0, rfl, rfl, rfl, hXe, hf1, hf2, hf3, hCZ⟩
          · subst hK
            gi_wp2_with (fail)
            have k1 := hi.res.put 0 (.bool true)
            have hW' := (KeepsOthers.setCell W ⟨q, 0, none⟩ (.bool true)).same D' _ hW rfl
            have hBz := (hi.bel.setCell (p := ⟨q, 0, none⟩) hqw (.bool true)).trans (belowK_b (w := w) (Nat.le_refl _) _ D' (.deferred (some [])) (.deferred none) hwD hW' rfl rfl)
            have z1 := k1.grown (grownBy_putObj' _ D' (.deferred none)) (by simp; exact hqD)
            have y0 := z1.cell 0
            simp at y0
            refine ⟨by simp, .inl ⟨_, _, rfl, run_takeDeferred hW', ?_⟩⟩
            refine ⟨_, ?_, rfl, hBz⟩
            simp [results, Try.f5, go_sem, y0]
          · have hZ0 : ¬ ((Z.length : Nat) : Int) < 0 := by omega
            have hZ1 : (0 : Int) ≤ ((Z.length : Nat) : Int) := by omega
            gi_wp2_with (fail)
            refine ⟨trivial, ?_⟩
            refine (callsIn_wide.2 (back_yes hi.dc h0 l0 ?back)).mono ?_
            case back => skip; exact ⟨by omega, by have := hi.dc.hi; omega, by omega⟩
            rintro e W6 ⟨rfl, D6, O6⟩
            simp only [Int.toNat_natCast] at D6
            have n1 := row_ne hi.row hi.dc.im.by_ (by decide)
            have n2 := row_ne hi.row hi.dc.bk (by decide)
            have q1 := O6.bk hi.cnt (hi.cnt.ne hi.dc.im.by_ (by decide)) (hi.cnt.ne hi.dc.bk (by decide))
            have q2 := O6.bk hi.lst (hi.lst.ne hi.dc.im.by_ (by decide)) (hi.lst.ne hi.dc.bk (by decide))
            have q3 := O6.row hi.row n1 n2
            have q4 := O6.bk hi.res hqb hqd
            have q5 := hi.bel.trans (O6.below z2 z3 hi.bel.size)
            have hD6 : W6.heap[D']? = some (.deferred (some [])) := (O6.block D' (Array.getElem?_eq_some_iff.1 hW).1 (by have := hi.dc.im.by_; unfold Bk at this; intro e; subst e; rw [hW] at this; cases this) (by have := hi.dc.bk; unfold Bk at this; intro e; subst e; rw [hW] at this; cases this)).trans hW
            have c4 := q1.cell 0
            simp at c4
            have c5 := q1.free 0
            have hz6 : w5.heap.size ≤ W6.heap.size := Nat.le_trans hi.lo O6.size
            replace hD6 := Lib.hid hD6
            clear hi n1 n2 O6 hW c0 r6 r7
            gi_wp2_with (fail)
            have m1 := q1.ne q2 (by decide)
            have m2 := q1.ne q4 (by decide)
            have m3 := row_ne q3 q1 (by decide)
            have D7 := D6.far (q := ⟨cx, 0, none⟩) (q1.ne D6.im.st (by decide)).symm (q1.ne D6.im.by_ (by decide)).symm (q1.ne D6.bk (by decide)).symm (.int .i64 (Z.length : Nat))
            have q3 := Onb.row (b := cx) (d := cx) (Onb.ofd ((Only.refl cx W6).put 0 (.int .i64 (Z.length : Nat)))) q3 m3 m3
            have q2 := q2.other (p := ⟨cx, 0, none⟩) m1.symm (.int .i64 (Z.length : Nat))
            have q4 := q4.other (p := ⟨cx, 0, none⟩) m2.symm (.int .i64 (Z.length : Nat))
            have q5 := q5.setCell (p := ⟨cx, 0, none⟩) hwc (.int .i64 (Z.length : Nat))
            have q1 := q1.put 0 (.int .i64 (Z.length : Nat))
            have hD7 := (KeepsOthers.setCell W6 ⟨cx, 0, none⟩ (.int .i64 (Z.length : Nat))).same D' _ hD6.out rfl
            obtain ⟨W7, hW7⟩ : ∃ W7, W6.setCell ⟨cx, 0, none⟩ (.int .i64 (Z.length : Nat)) = W7 := ⟨_, rfl⟩
            have hz7 : w5.heap.size ≤ W7.heap.size := by rw [← hW7, World.size_setCell]; exact hz6
            rw [hW7] at D7 q1 q2 q3 q4 q5 hD7 ⊢
            clear hW7 D6 hD6 c4 c5 m1 m2 m3 hz6
            refine ⟨trivial, ?_⟩
            refine (callsIn_wide.2 (all_any d _)).mono ?_
            rintro e W8 ⟨rfl, hW8⟩
            have a8 := Bk.fresh W7 30 #[.pointer (some ⟨d, 0, none⟩)]
            have hB8 : Below W7.heap.size W7 W8 := by rw [hW8]; exact (Below.refl _ _).alloc (Nat.le_refl _) _
            rw [← hW8] at a8
            have hD8 : W8.heap[D']? = some (.deferred (some [])) := (hB8.block D' (Array.getElem?_eq_some_iff.1 hD7).1).trans hD7
            have hz8 : w5.heap.size ≤ W8.heap.size := Nat.le_trans hz7 hB8.size
            have hI8 : Iw w W8.heap.size cx lb q A2 c2 X Z d p b L f y Bc h0 l0 [] W8 := ⟨List.nil_prefix, by simpa using q1.kept hB8 q1.lt, q2.kept hB8 q2.lt, own_below q3 hB8 (Nat.le_refl _), q4.kept hB8 q4.lt, q5.trans (hB8.mono q5.size), D7.bel hB8, Nat.le_refl _⟩
            have hD8l : D' < W8.heap.size := (Array.getElem?_eq_some_iff.1 hD8).1
            obtain ⟨ev, hev⟩ : ∃ ev, W7.heap.size = ev := ⟨_, rfl⟩
            rw [hev] at a8 ⊢
            replace hD8 := Lib.hid hD8
            clear hW8 hB8 hD7 q1 q2 q3 q4 q5 D7 hz7 hev
            gi_wp2_with (fail)
            have hwk2 := chain_walkP hf0 hCZ
            replace hXe := Lib.hid hXe
            refine range_all 6 181 23 ev (by decide) (fun i => i = cx) (fun i e => by rw [e]; exact Nat.lt_of_lt_of_le hcx1 hz8) rfl rfl hI8.dc a8 (fun pre W => Iw w W8.heap.size cx lb q A2 c2 X Z d p b L f y Bc h0 l0 pre W ∧ W.heap[D']? = some (.deferred (some []))) (fun c pre W => c = .ret ∧ ¬ pre.map (·.1) <+: Z) ?own (fun c => ownFrom_pure _ _) ⟨hI8, hD8.out⟩ ?assign2 ?body2 ?done2 ?stop2
            case own =>
              refine OwnFrom.and (Iw.own _ hI8.bel.size) (fun s A B row hs hg hr => (hg.block D' (Array.getElem?_eq_some_iff.1 hs).1 (fun e => by have := (hr D' e.symm).1; omega)).trans hs)
            case assign2 =>
              rintro l pre x W K ⟨hi, hd⟩ hK
              have r0 := Bk.fresh W 34 (wdC wd0).toArray
              have hBa : Below W.heap.size W (W.alloc (.cells (wdC wd0).toArray 34)) := (Below.refl _ _).alloc (Nat.le_refl _) _
              obtain ⟨g, hg⟩ : ∃ g, W.heap.size = g := ⟨_, rfl⟩
              obtain ⟨V, hV⟩ : ∃ V, W.alloc (.cells (wdC wd0).toArray 34) = V := ⟨_, rfl⟩
              rw [hV] at r0 hBa
              rw [hg] at r0
              have hV' : W.alloc (.cells #[.string ⟨#[]⟩, .int .i64 0, .int .i64 0, .bool false, .bool false, .bool false] 34) = V := hV
              have hB6 : Below W.heap.size W (set6 V g x.1) := set6_below hBa (by omega)
              have hKK := hK g (set6 V g x.1) (by rw [← hg]; exact hi.lo) (set6_bk (y := x.1) r0) (KeepsFrom.of_grownBy (grown_below hB6) (by simp)) (Kc.of_below hB6) ⟨hi.kept hB6, (hB6.block D' (Array.getElem?_eq_some_iff.1 hd).1).trans hd⟩
              have e0 := r0.cell 0
              have e1 := r0.cell 1
              have e2 := r0.cell 2
              have e3 := r0.cell 3
              have e4 := r0.cell 4
              have e5 := r0.cell 5
              simp [wdC, wd0] at e0 e1 e2 e3 e4 e5
              have f0 := r0.free 0
              have f1 := r0.free 1
              have f2 := r0.free 2
              have f3 := r0.free 3
              have f4 := r0.free 4
              have f5 := r0.free 5
              unfold set6 at hKK
              replace hKK := Lib.hid hKK
              clear hV hB6 hBa r0 hK hi
              simp only [wdV, List.setIfInBounds_toArray, List.set_cons_zero, List.set_cons_succ] at hKK ⊢
              gi_wp2
              exact hKK.out
            case body2 =>
              rintro l' pre x Bx W hl hBx bX ⟨hi, hd⟩ hlt
              rw [hwk2] at hlt
              obtain ⟨yy, hyy⟩ : ∃ yy, Z[pre.length]? = some yy := ⟨_, List.getElem?_eq_getElem hlt⟩
              have hdd := (fun (V : World) (h : KeepsOthers W V) => h.same D' _ hd rfl)
              have hPs := pre_snoc hi.pfx x
              have hno := not_pre x hyy
              obtain ⟨j, hj⟩ : ∃ j, Z.length - (pre.length + 1) = j := ⟨_, rfl⟩
              have hj1 : ((Z.length - pre.length : Nat) : Int) = j + 1 := by omega
              have hj2 : Z.length - (pre ++ [x]).length = j := by rw [List.length_append]; exact hj
              obtain ⟨q1, q2, q3, q4, q5, q6, q7⟩ := hi.put hwc (.int .i64 (j : Int))
              obtain ⟨gq, hA2, hcell⟩ := row_cell (Y := Y) hXe.out q3 hyy
              have hjX : j < X.length := by have := congrArg List.length (show X = Y ++ Z from hXe.out); rw [List.length_append] at this; omega
              have hjI : (j : Int) < X.length := by omega
              have c0 := hi.cnt.cell 0
              simp at c0
              rw [hj1] at c0
              have c1 := hi.cnt.free 0
              rw [hj] at hcell
              have hbc : Bx ≠ cx := by have := hi.cnt.lt; have := hi.lo; omega
              have bX := bX.other (p := ⟨cx, 0, none⟩) hbc (.int .i64 (j : Int))
              have w1 : IntKind.i64.wrap ((j : Int) + 1 - 1) = j := by rw [IntKind.wrap_i64]; omega
              simp only [wdV, List.setIfInBounds_toArray, List.set_cons_zero, List.set_cons_succ]
              replace hPs := Lib.hid hPs
              replace hno := Lib.hid hno
              replace hA2 := Lib.hid hA2
              replace hj2 := Lib.hid hj2
              clear hi hj hj1 hlt
              gi_wp2_with (fail)
              obtain ⟨W2, hW2⟩ : ∃ W2, W.setCell ⟨cx, 0, none⟩ (.int .i64 (j : Int)) = W2 := ⟨_, rfl⟩
              rw [hW2] at q1 q2 q3 q4 q5 q6 q7 bX
              have hK2 : KeepsFrom W8.heap.size W W2 ∧ Kc (fun i => i = cx) W W2 := by rw [← hW2]; exact ⟨(KeepsOthers.setCell _ _ _).from _, Kc.of_set cx (q := ⟨cx, 0, none⟩) _ rfl⟩
              replace hK2 := Lib.hid hK2
              have hdd2 := Lib.hid (hdd W2 (by rw [← hW2]; exact KeepsOthers.setCell _ _ _))
              rw [hW2]
              clear hdd
              simp only [hW2] at hcell
              clear hW2 c0 c1 w1
              have y0 := q1.cell 0
              simp at y0
              have b0 := bX.cell 0
              have b1 := bX.cell 1
              have b2 := bX.cell 2
              have b3 := bX.cell 3
              have b4 := bX.cell 4
              have b5 := bX.cell 5
              simp [wdC] at b0 b1 b2 b3 b4 b5
              have z0 : W2.cell? ⟨gq, j * 6, none⟩ = some (.string yy.name) := hcell 0 (by omega)
              have z1 : W2.cell? ⟨gq, j * 6 + 1, none⟩ = some (.int .i64 yy.hd) := hcell 1 (by omega)
              have z2 : W2.cell? ⟨gq, j * 6 + 2, none⟩ = some (.int .i64 yy.xt) := hcell 2 (by omega)
              have z3 : W2.cell? ⟨gq, j * 6 + 3, none⟩ = some (.bool yy.imm) := hcell 3 (by omega)
              have z4 : W2.cell? ⟨gq, j * 6 + 4, none⟩ = some (.bool yy.hid) := hcell 4 (by omega)
              have z5 : W2.cell? ⟨gq, j * 6 + 5, none⟩ = some (.bool yy.inl) := hcell 5 (by omega)
              have s0 := q2.cell 0
              simp at s0
              rw [hA2.out] at s0
              have r6 := q4.cell 0
              simp at r6
              have r7 := q4.free 0
              obtain ⟨bb, hbb⟩ : ∃ bb, eqW ⟨x.1.name, x.1.hd, x.1.xt, x.1.imm, x.1.hid, x.1.inl⟩ ⟨yy.name, yy.hd, yy.xt, yy.imm, yy.hid, yy.inl⟩ = bb := ⟨_, rfl⟩
              clear hcell
              have hj0 : (0 : Int) ≤ j := by omega
              have hj00 : ¬ (j : Int) < 0 := by omega
              cases bb
              all_goals
                refine region_round rfl (by kernel_rfl) (by kernel_rfl) (by kernel_rfl) ?_
                repeat (gi_big_quiet_step (fail))
                refine wpQuietIn_nil ?_
                rintro _ ⟨nq, rfl⟩
                have hKF := hK2.out.1.trans (KeepsFrom.of_grownBy (grown_below (below_drawn (Below.refl _ W2) nq)) (by simp))
                have hKC := hK2.out.2.t (Kc.of_below (below_drawn (Below.refl _ W2) nq))
                replace hKF := Lib.hid hKF
                replace hKC := Lib.hid hKC
                gi_wp2_with (fail)
                first
                | exact ⟨hKF.out.trans ((KeepsOthers.setCell _ _ _).from _), rfl, hno.out (fun e => by
                    have := (eqW_iff _ _).2 e
                    rw [show eqW x.1 yy = false from hbb] at this
                    cases this)⟩
                | exact ⟨hKF.out, hKC.out, hPs.out (by rw [hyy]; exact congrArg some ((eqW_iff _ _).1 hbb).symm), by rw [hj2.out]; exact q1.draws nq, q2.draws nq, own_draws q3 nq, q4.draws nq, below_drawn q5 nq, q6.draws nq, q7⟩
                | exact ⟨hKF.out, hKC.out, ⟨hPs.out (by rw [hyy]; exact congrArg some ((eqW_iff _ _).1 hbb).symm), by rw [hj2.out]; exact q1.draws nq, q2.draws nq, own_draws q3 nq, q4.draws nq, below_drawn q5 nq, q6.draws nq, q7⟩, hdd2.out⟩
            case done2 =>
              rintro D2 ys W hD2 hys ⟨hi, hd⟩ hW
              have hyl : ys.length = Z.length := by rw [← hwk2, ← hys, List.length_map]
              have c0 := hi.cnt.cell 0
              simp at c0
              rw [hyl, Nat.sub_self] at c0
              have r6 := hi.res.cell 0
              simp at r6
              have r7 := hi.res.free 0
              gi_wp2_with (fail)
              have k1 := hi.res.put 0 (.bool true)
              have hW' := (KeepsOthers.setCell W ⟨q, 0, none⟩ (.bool true)).same D2 _ hW rfl
              have hd' := (KeepsOthers.setCell W ⟨q, 0, none⟩ (.bool true)).same D' _ hd rfl
              have hB1 := (hi.bel.setCell (p := ⟨q, 0, none⟩) hqw (.bool true)).trans (belowK_b (w := w) (Nat.le_refl _) _ D2 (.deferred (some [])) (.deferred none) (by omega) hW' rfl rfl)
              have z1 := k1.grown (grownBy_putObj' _ D2 (.deferred none)) (by simp; omega)
              have hd2 := ((grownBy_putObj' (W.setCell ⟨q, 0, none⟩ (.bool true)) D2 (.deferred none)).block D' (Array.getElem?_eq_some_iff.1 hd').1 (by simp; omega)).trans hd'
              have hBz := hB1.trans (belowK_b (w := w) (Nat.le_refl _) _ D' (.deferred (some [])) (.deferred none) (by omega) hd2 rfl rfl)
              have z2 := z1.grown (grownBy_putObj' _ D' (.deferred none)) (by simp; omega)
              have y0 := z2.cell 0
              simp at y0
              refine ⟨by simp, .inl ⟨_, _, rfl, run_takeDeferred hW', ?_⟩⟩
              refine ⟨by simp, .inl ⟨_, _, rfl, run_takeDeferred hd2, ?_⟩⟩
              refine ⟨_, ?_, rfl, hBz⟩
              simp [results, Try.f5, go_sem, y0]
            case stop2 =>
              rintro D' c pre W hD hpre ⟨rfl, hno⟩ hW
              exact (hno (by rw [← hwk2]; exact hpre)).elim
        case stop =>
          rintro D' c pre W hD hpre ⟨rfl, hno⟩ hW
          exact (hno (by rw [← hwk]; exact hpre)).elim
end Go.Proofs.Ytoaiiimnfgbcaaa
