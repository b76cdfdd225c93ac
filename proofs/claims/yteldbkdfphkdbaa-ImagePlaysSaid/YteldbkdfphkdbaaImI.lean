import Derived.Test.YteldbkdfphkdbaaImH
namespace Go.Proofs.Yteldbkdfphkdbaa
open Go.RowKit
set_option linter.unusedVariables false
set_option linter.unusedSimpArgs false
theorem beg_even {L : Lay} (h : L.ok) (r : Nat) (h1 : 1 ≤ r) (h6 : r ≤ 6) : L.beg r % 8 = 0 := by
  have m := Lay.even h
  rcases (by omega : r = 1 ∨ r = 2 ∨ r = 3 ∨ r = 4 ∨ r = 5 ∨ r = 6) with rfl | rfl | rfl | rfl | rfl | rfl <;> simp only [Lay.beg] <;> omega
theorem beg_le {L : Lay} (h : L.ok) (r : Nat) (h1 : 1 ≤ r) (h5 : r ≤ 5) : L.beg r ≤ L.beg (r + 1) ∧ L.beg (r + 1) ≤ 143360 := by
  have m := Lay.mono h
  rcases (by omega : r = 1 ∨ r = 2 ∨ r = 3 ∨ r = 4 ∨ r = 5) with rfl | rfl | rfl | rfl | rfl <;> simp only [Lay.beg] <;> omega
def FillR (w : World) (p b : Nat) (L : Lay) (wr : World) : Prop := ∃ B, Im wr p b L B false false ∧ Below w.heap.size w wr
set_option maxRecDepth 100000 in
set_option maxHeartbeats 4000000 in
theorem filled_any (a b c d e z : Int) (o s : Bool) (w : World) (ha : inI a) (hb : inI b) (hc : inI c) (hd : inI d) (he : inI e) (hz : inI z) :
    Calls Try.prog 21 #[.agg #[.int .i64 a, .int .i64 b, .int .i64 c, .int .i64 d, .int .i64 e], .int .i64 z, .bool o, .bool s] w fun e' w' => ∃ p q B, e' = .returned (.pointer (some ⟨p, 0, none⟩)) ∧ Im w' p q (layOf a b c d e) B o s ∧ w.heap.size ≤ p ∧ w.heap.size ≤ q ∧ Below w.heap.size w w' := by
  have hlay := fun W => layout_any a b c d e W ha hb hc hd he
  have hok := layOf_ok a b c d e
  obtain ⟨L, hL⟩ : ∃ L, layOf a b c d e = L := ⟨_, rfl⟩
  rw [hL] at hok ⊢
  simp only [hL] at hlay
  clear hL ha hb hc hd he
  replace hok := Lib.hid hok
  replace hlay := Lib.hid hlay
  go_enter Try.func21, Try.ntmps21
  go_wp2_with (fail)
  refine (hlay.out _).mono ?_
  rintro e' w1 ⟨rfl, hb1⟩
  replace hb1 := ((Below.refl w.heap.size w).alloc (Nat.le_refl _) (.cells #[.int .i64 a, .int .i64 b, .int .i64 c, .int .i64 d, .int .i64 e] 39)).trans (hb1.mono (by simp))
  go_wp2_with (fail)
  refine (new_yes L hok.out w1).mono ?_
  rintro e' w2 ⟨p, q, rfl, hI, hp, hq, hb2⟩
  replace hb2 := hb1.trans (hb2.mono hb1.size)
  replace hp := Nat.le_trans hb1.size hp
  replace hq := Nat.le_trans hb1.size hq
  clear hb1
  have hF : FillR w p q L w2 := ⟨_, hI, hb2⟩
  clear hI hb2
  replace hF := Lib.hid hF
  replace hp := Lib.hid hp
  replace hq := Lib.hid hq
  go_wp2_with (fail)
  go_loopw [11] (fun k wr => ∃ k' : Nat, k = .int .i64 k' ∧ 1 ≤ k' ∧ k' ≤ 6 ∧ FillR w p q L wr) (fun k _ => 6 - (intOf k).toNat)
  case atStart => exact ⟨1, rfl, by omega, by omega, hF.out⟩
  case round =>
    obtain ⟨k, rfl, hk1, hk6, hFr⟩ := hrel
    clear hF
    by_cases h5 : k ≤ 5
    · have h5' : (k : Int) ≤ 5 := by omega
      obtain ⟨B, hI, hbb⟩ := hFr
      have hbl := beg_le hok.out k hk1 h5
      have hev := beg_even hok.out k hk1 (by omega)
      have hev2 := beg_even hok.out (k + 1) (by omega) (by omega)
      have hsp := span_any p q L B false false k wr hI
      rw [(from_of L k hk1 h5).1, (from_of L k hk1 h5).2] at hsp
      replace hsp := Lib.hid hsp
      have hrow := fun (a' : Nat) (g1 : L.beg k ≤ a') (g2 : a' < L.beg (k + 1)) (g3 : a' % 8 = 0) => row_in (o := false) (s := false) (mode := 0) (n := 8) (right := 2) hok.out k (a' : Int) hk1 h5 (by omega) (by omega) (by omega) (.inl (may_sys false k (by omega) (by omega)))
      replace hrow := Lib.hid hrow
      generalize L.beg k = x at *
      generalize L.beg (k + 1) = y at *
      replace hI := Lib.hid hI
      go_wp2_with (fail)
      refine hsp.out.mono ?_
      rintro e' w3 ⟨rfl, n, rfl⟩
      have hF : FillR w p q L (wr.drewN n) := ⟨B, hI.out.draws n, hbb.trans ⟨rfl, rfl, rfl, Nat.le_refl _, fun _ _ => rfl⟩⟩
      clear hI hbb
      replace hF := Lib.hid hF
      obtain ⟨wo, hwo⟩ : ∃ wo : World, wr.drewN n = wo := ⟨_, rfl⟩
      rw [hwo] at hF ⊢
      clear hwo
      go_wp2_with (fail)
      go_loopw [14] (fun a wr2 => ∃ a' : Nat, a = .int .i64 a' ∧ x ≤ a' ∧ a' ≤ y ∧ a' % 8 = 0 ∧ FillR w p q L wr2) (fun a _ => y - (intOf a).toNat)
      case atStart => exact ⟨x, rfl, by omega, by omega, hev, hF.out⟩
      case round =>
        obtain ⟨a', rfl, hx1, hx2, hx3, hF2⟩ := hrel
        clear hF
        by_cases hlt : a' < y
        · have i1 : (a' : Int) < y := by omega
          obtain ⟨B2, hI, hbb⟩ := hF2
          have hr := hrow.out a' hx1 hlt hx3
          have hnx : a' + 8 ≤ y := by omega
          replace hI := Lib.hid hI
          replace hr := Lib.hid hr
          go_wp2_with (fail)
          refine (setcell_yes hI.out a' _ hx3 hr.out).mono ?_
          rintro e' w4 ⟨rfl, hI4, hO4⟩
          have hF3 : FillR w p q L w4 := ⟨_, hI4, hO4.bel hbb hq.out⟩
          clear hI hI4 hO4 hbb
          replace hF3 := Lib.hid hF3
          go_wp2_with (fail)
          exact ⟨⟨a' + 8, by go_num, by omega, by omega, by omega, hF3.out⟩, by simp [intOf]; omega⟩
        · replace hF2 := Lib.hid hF2
          go_wp2_with (fail)
          exact ⟨⟨k + 1, by go_num, by omega, by omega, hF2.out⟩, by simp [intOf]; omega⟩
    · obtain rfl : k = 6 := by omega
      obtain ⟨B, hI, hbb⟩ := hFr
      replace hI := Lib.hid hI
      cases o <;> cases s
      · have hsl := Lib.hid (sealed_any hI.out)
        go_wp2_with (fail)
        refine hsl.out.mono ?_
        rintro e' w5 ⟨rfl, rfl⟩
        go_wp2_with (fail)
        go_returns
        exact ⟨p, q, B, rfl, hI.out, hp.out, hq.out, hbb⟩
      · go_wp2_with (fail)
        refine (seal_yes hI.out).mono ?_
        rintro e' w5 ⟨rfl, hI5, hO5⟩
        have hb5 := hO5.bel hbb hp.out
        have hsl := Lib.hid (sealed_any hI5)
        replace hI5 := Lib.hid hI5
        clear hO5
        go_wp2_with (fail)
        refine hsl.out.mono ?_
        rintro e' w6 ⟨rfl, rfl⟩
        go_wp2_with (fail)
        go_returns
        exact ⟨p, q, B, rfl, hI5.out, hp.out, hq.out, hb5⟩
      · go_wp2_with (fail)
        refine (open_yes hI.out).mono ?_
        rintro e' w5 ⟨rfl, hI5, hO5⟩
        have hb5 := hO5.bel hbb hp.out
        have hsl := Lib.hid (sealed_any hI5)
        replace hI5 := Lib.hid hI5
        clear hO5
        go_wp2_with (fail)
        refine hsl.out.mono ?_
        rintro e' w6 ⟨rfl, rfl⟩
        go_wp2_with (fail)
        go_returns
        exact ⟨p, q, B, rfl, hI5.out, hp.out, hq.out, hb5⟩
      · go_wp2_with (fail)
        refine (open_yes hI.out).mono ?_
        rintro e' w5 ⟨rfl, hI5, hO5⟩
        have hb5 := hO5.bel hbb hp.out
        replace hI5 := Lib.hid hI5
        clear hO5
        go_wp2_with (fail)
        refine (seal_yes hI5.out).mono ?_
        rintro e' w7 ⟨rfl, hI7, hO7⟩
        have hb7 := hO7.bel hb5 hp.out
        have hsl := Lib.hid (sealed_any hI7)
        replace hI7 := Lib.hid hI7
        clear hO7
        go_wp2_with (fail)
        refine hsl.out.mono ?_
        rintro e' w6 ⟨rfl, rfl⟩
        go_wp2_with (fail)
        go_returns
        exact ⟨p, q, B, rfl, hI7.out, hp.out, hq.out, hb7⟩
end Go.Proofs.Yteldbkdfphkdbaa
