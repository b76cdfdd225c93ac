import Derived.Test.YtkopgjdnfjgbjaaStM
import Derived.Test.YtkopgjdnfjgbjaaStN
namespace Go.Proofs.Ytkopgjdnfjgbjaa
open Go.RowKit
set_option linter.unusedVariables false
set_option linter.unusedSimpArgs false
/-! StackBack: the walk -/
set_option maxHeartbeats 4000000 in
theorem walk_back (d : Int) (A : Option Addr) (n c : Nat) (m : Int) (w : World) (hd : inI d) (hv : Ints w A n) (hn : n ≤ 140737488351232) (hm : inI m) :
    Calls Try.prog 4 #[.int .i64 d, .slice A n c, .int .i64 m] w fun e w' => e = .returned (.bool true) ∧ Below w.heap.size w w' := by
  obtain ⟨sb, so, vs, hvn, hv0, hvi, hsb⟩ := ints_rowd hv
  have hlay := fun w1 => layout4_any d 0 w1 hd (by unfold inI; decide)
  have hbeg := fun w1 => begun_any d 0 w1
  have hok := layOf4_ok d 0
  obtain ⟨L, hL⟩ : ∃ L, layOf4 d 0 = L := ⟨_, rfl⟩
  simp only [hL] at hlay hbeg hok
  clear hL hv
  have hev := ((reg_lies hok 4 (.inl rfl)).even hok)
  replace hok := Lib.hid hok
  replace hlay := Lib.hid hlay
  replace hbeg := Lib.hid hbeg
  replace hvn := Lib.hid hvn
  replace hv0 := Lib.hid hv0
  replace hvi := Lib.hid hvi
  replace hsb := Lib.hid hsb
  have hroom : roomOf L 4 ≤ 17920 := by omega
  replace hev := Lib.hid hev
  go_enter Try.func4, Try.ntmps4
  go_wp2_with (fail)
  refine (shown4 _).mono ?_
  rintro e w1 ⟨rfl, hb1⟩
  go_wp2_with (fail)
  refine (hlay.out w1).mono ?_
  rintro e w2 ⟨rfl, hb2⟩
  go_wp2_with (fail)
  refine (hbeg.out w2).mono ?_
  rintro e w3 ⟨a, rfl, hW, -⟩
  replace hW := hW.base (hb1.trans (hb2.mono hb1.size))
  have c1 := hW.cells.2.1
  clear hb1 hb2
  obtain ⟨B, hB⟩ : ∃ B, List.replicate L.b6 (0 : UInt8) = B := ⟨_, rfl⟩
  rw [hB] at hW
  clear hB
  replace hW := Lib.hid hW
  have hnI : (n : Int) ≤ 140737488351232 := by omega
  go_wp2_with (fail)
  by_cases hfit : roomOf L 4 < n
  · have hp : Calls Try.prog 18 #[.pointer (some ⟨a.s0, 0, none⟩), .slice A n c] w3 fun e w' => e = .returned (.int .i64 2) ∧ Wd w w' a L B (fun _ => 0) ∧ Below w3.heap.size w3 w' := wd_push_no hW.out 0 (by decide) A n c (by show roomOf L 4 - 0 < n; omega) (by omega)
    refine hp.mono ?_
    rintro e w4 ⟨rfl, hW4, -⟩
    replace hW := Lib.hid hW4
    clear hW4 hp
    have i1 : ((roomOf L 4 : Nat) : Int) < (n : Int) := by omega
    go_wp2_with (fail)
    refine (room_any (hW.out.st 0 (by decide))).mono ?_
    rintro e w5 ⟨rfl, hw_⟩
    have hw_ := hw_.symm
    subst hw_
    go_wp2_with (fail)
    refine (depth_any (hW.out.st 0 (by decide))).mono ?_
    rintro e w5 ⟨rfl, hw_⟩
    have hw_ := hw_.symm
    subst hw_
    go_wp2_with (fail)
    go_returns
    exact ⟨rfl, hW.out.be⟩
  · have hnr : n ≤ roomOf L 4 := by omega
    have hp : Calls Try.prog 18 #[.pointer (some ⟨a.s0, 0, none⟩), .slice A n c] w3 fun e w' => e = .returned (.int .i64 0) ∧ Wd w w' a L (laid B (L.beg 4) 0 vs) (upd (fun _ => 0) 0 (0 + n)) ∧ Duo a.s0 a.b w3 w' := by
      have := wd_push hW.out 0 (by decide) A c sb so vs (by show vs.length ≤ roomOf L 4 - 0; rw [hvn.out]; omega) (hv0.out.bel hW.out.be (fun h => hsb.out (by rw [hvn.out] at h; exact h)))
      rw [hvn.out] at this
      exact this
    refine hp.mono ?_
    rintro e w4 ⟨rfl, hW4, -⟩
    have hlenB : L.beg 4 + 8 * n ≤ B.length := by
      have h1 := hW.out.im.len
      have h2 := hev.out.2.1
      omega
    have hE : cels (laid B (L.beg 4) 0 vs) (L.beg 4) n = vs := by
      rw [cels_laid (L.beg 4) B 0 n vs (by rw [hvn.out]; omega) (by rw [hvn.out]; omega) hvi.out]
      simp [hvn.out, cels]
    obtain ⟨d1, hd1⟩ : ∃ d1, upd (fun _ => 0) 0 (0 + n) = d1 := ⟨_, rfl⟩
    have hd0 : d1 0 = n := by rw [← hd1, upd_same]; omega
    obtain ⟨B1, hB1⟩ : ∃ B1, laid B (L.beg 4) 0 vs = B1 := ⟨_, rfl⟩
    rw [hd1, hB1] at hW4
    rw [hB1] at hE
    replace hW := Lib.hid hW4
    replace hE := Lib.hid hE
    replace hd0 := Lib.hid hd0
    clear hp hW4 hd1 hB1 hlenB c1
    have hn2 : (n : Int) ≤ 17920 := by omega
    go_wp2_with (fail)
    have hpk := pick_any m ((n : Int) + 2) w4 hm.1 hm.2 (by omega) (by omega)
    rw [show ((n : Int) + 2).toNat = n + 2 from by omega] at hpk
    have hk := pickN_lt m (n + 2) (by omega)
    obtain ⟨k, hk0⟩ : ∃ k, pickN m (n + 2) = k := ⟨_, rfl⟩
    rw [hk0] at hpk hk
    clear hk0
    refine hpk.mono ?_
    rintro e w5 ⟨rfl, hw_⟩
    have hw_ := hw_.symm
    subst hw_
    clear hpk
    have hk2 : (k : Int) ≤ 17921 := by omega
    go_wp2_with (fail)
    go_loopw [11] (fun x wr => ∃ j : Nat, x = .int .i64 j ∧ j ≤ k + 1 ∧ ∃ Bj, Hid (Wd w wr a L Bj d1) ∧ Hid (cels Bj (L.beg 4) n = if k < n then vs.take (n - 1 - k) ++ rot j (vs.drop (n - 1 - k)) else vs)) (fun x _ => k + 1 - (intOf x).toNat)
    case atStart =>
      refine ⟨0, rfl, Nat.zero_le _, B1, hW, Lib.hid ?_⟩
      rw [hE.out]
      split
      · rw [rot_zero, List.take_append_drop]
      · rfl
    case round =>
      obtain ⟨j, rfl, hj0, Bj, hWj, hEj⟩ := hrel
      have hlen : L.beg 4 + 8 * n ≤ Bj.length := by
        have h1 := hWj.out.im.len
        have h2 := hev.out.2.1
        omega
      replace hlen := Lib.hid hlen
      by_cases hj : j < k + 1
      · have j0 : (j : Int) ≤ (k : Int) := by omega
        by_cases hkn : k < n
        · have k0 : (k : Int) < (n : Int) := by omega
          have hr : Calls Try.prog 20 #[.pointer (some ⟨a.s0, 0, none⟩), .int .i64 k] wr fun e w' => e = .returned (.int .i64 0) ∧ ∃ B', Hid (Wd w w' a L B' d1) ∧ Hid (cels B' (L.beg 4) n = vs.take (n - 1 - k) ++ rot (j + 1) (vs.drop (n - 1 - k))) := by
            refine (wd_roll hWj.out 0 (by decide) k (n - 1 - k) (by rw [hd0.out]; exact hkn) (by rw [hd0.out])).mono fun e w' g => ⟨g.1, _, Lib.hid g.2.1, Lib.hid ?_⟩
            have h2 := hEj.out
            rw [if_pos hkn] at h2
            rw [hd0.out]
            exact roll_once (L.beg 4) Bj vs (n - 1 - k) j n hvn.out (by omega) (by omega) hlen.out h2
          replace hr := Lib.hid hr
          go_wp2_with (go_at_call 20; refine hr.out.mono ?_; rintro e w6 ⟨rfl, B', hW', hE'⟩)
          refine ⟨⟨j + 1, rfl, by omega, B', hW', Lib.hid ?_⟩, ?_⟩
          · rw [if_pos hkn]; exact hE'.out
          · simp [intOf]; omega
        · have k0 : ¬ (k : Int) < (n : Int) := by omega
          have hr : Calls Try.prog 20 #[.pointer (some ⟨a.s0, 0, none⟩), .int .i64 k] wr fun e w' => e = .returned (.int .i64 1) ∧ Hid (Wd w w' a L Bj d1) :=
            (wd_roll_no hWj.out 0 (by decide) k (by rw [hd0.out]; simp [hasB]; omega)).mono fun e w' g => ⟨g.1, Lib.hid g.2.1⟩
          replace hr := Lib.hid hr
          go_wp2_with (go_at_call 20; refine hr.out.mono ?_; rintro e w6 ⟨rfl, hW'⟩)
          refine ⟨⟨j + 1, rfl, by omega, Bj, hW', Lib.hid ?_⟩, ?_⟩
          · rw [if_neg hkn]
            have h2 := hEj.out
            rw [if_neg hkn] at h2
            exact h2
          · simp [intOf]; omega
      · have ej : j = k + 1 := by omega
        subst ej
        have hEv : cels Bj (L.beg 4) n = vs := by
          rw [hEj.out]
          split
          · rename_i hkn
            rw [show k + 1 = (vs.drop (n - 1 - k)).length from by rw [List.length_drop, hvn.out]; omega, rot_all, List.take_append_drop]
          · rfl
        have j0 : ¬ ((k + 1 : Nat) : Int) ≤ (k : Int) := by omega
        clear hE hEj hj hj0
        obtain ⟨k2, hk2'⟩ : ∃ k2, k + 1 = k2 := ⟨_, rfl⟩
        rw [hk2'] at j0 ⊢
        have hc : Calls Try.prog 16 #[.pointer (some ⟨a.s0, 0, none⟩)] wr fun e w' => ∃ g, e = .returned (.slice (some ⟨g, 0, none⟩) n n) ∧ Bk w' g 3 (i64s vs).toArray ∧ Hid (Wd w w' a L Bj d1) := by
          refine (wd_cells hWj.out 0 (by decide)).mono fun e w' ⟨g, h1, _, h3, h4, _⟩ => ⟨g, ?_, ?_, Lib.hid h4⟩
          · rw [hd0.out] at h1; exact h1
          · rw [hd0.out] at h3
            rw [← hEv]
            exact h3
        replace hc := Lib.hid hc
        replace hEv := Lib.hid hEv
        go_wp2_with (go_at_call 16; refine hc.out.mono ?_; rintro e w6 ⟨g, rfl, hX, hW6⟩)
        have hsm := same_any (some ⟨g, 0, none⟩) A n n n c g 0 sb so vs vs w6 (rowd_of hX) (hv0.out.bel hW6.out.be (fun h => hsb.out (by rw [hvn.out] at h; exact h))) hvn.out hvn.out (by omega)
        refine hsm.mono ?_
        rintro e w7 ⟨he, hw7⟩
        have he : e = .returned (.bool true) := by rw [he]; simp
        subst he
        obtain ⟨q7, hw7⟩ := hw7
        have hW7 := Lib.hid (by rw [hw7]; exact hW6.out.draws q7 : Wd w w7 a L Bj d1)
        clear hsm hX hw7 hW6 hc
        have hp1 : Calls Try.prog 22 #[.pointer (some ⟨a.s0, 0, none⟩), .int .i64 n, .int .i64 1] w7 fun e w' => e = .returned (.int .i64 1) ∧ Hid (Wd w w' a L Bj d1) :=
          (wd_poke_no hW7.out 0 (by decide) n 1 (by rw [hd0.out]; simp [hasB])).mono fun e w' g => ⟨g.1, Lib.hid g.2.1⟩
        replace hp1 := Lib.hid hp1
        go_wp2_with (go_at_call 22; refine hp1.out.mono ?_; rintro e w8 ⟨rfl, hW8⟩)
        have hp2 : Calls Try.prog 20 #[.pointer (some ⟨a.s0, 0, none⟩), .int .i64 (-1)] w8 fun e w' => e = .returned (.int .i64 1) ∧ Hid (Wd w w' a L Bj d1) :=
          (wd_roll_no hW8.out 0 (by decide) (-1) (by simp [hasB])).mono fun e w' g => ⟨g.1, Lib.hid g.2.1⟩
        refine hp2.mono ?_
        rintro e w9 ⟨rfl, hW9⟩
        clear hp1 hp2 hW8 hW7 hWj
        go_wp2_with (fail)
        go_loopw [14] (fun x wr => ∃ j : Nat, x = .int .i64 ((j : Int) - 1) ∧ j ≤ n ∧ ∃ dj, Hid (Wd w wr a L Bj dj) ∧ dj 0 = j) (fun x _ => (intOf x + 1).toNat)
        case atStart => exact ⟨n, rfl, Nat.le_refl _, d1, hW9, hd0.out⟩
        case round =>
          obtain ⟨j, rfl, hj0, dj, hWj, hdj⟩ := hrel
          by_cases hj : 0 < j
          · obtain ⟨i, rfl⟩ : ∃ i, j = i + 1 := ⟨j - 1, by omega⟩
            rw [show ((i + 1 : Nat) : Int) - 1 = (i : Int) from by omega]
            have j0 : (0 : Int) ≤ (i : Int) := by omega
            have j1 : (i : Int) < (n : Int) := by omega
            have hi' : i < vs.length := by rw [hvn.out]; omega
            obtain ⟨v, hv⟩ : ∃ v, vs[i] = v := ⟨_, rfl⟩
            have hcv : cel Bj (L.beg 4 + 8 * i) = v := by
              have h1 := cels_at Bj (L.beg 4) n i (by omega)
              rw [hEv.out, List.getElem?_eq_getElem hi', hv] at h1
              injection h1 with h1
              exact h1.symm
            have hr : Calls Try.prog 23 #[.pointer (some ⟨a.s0, 0, none⟩)] wr fun e w' => e = .returned (.tuple #[.int .i64 v, .int .i64 0]) ∧ ∃ d', Hid (Wd w w' a L Bj d') ∧ d' 0 = i :=
              (wd_pop hWj.out 0 (by decide) i hdj v hcv).mono fun e w' g => ⟨g.1, _, Lib.hid g.2.1, upd_same _ _ _⟩
            have hrow : ∀ w1, Wd w w1 a L Bj dj ∨ (∃ d', Wd w w1 a L Bj d') → A = some ⟨sb, so, none⟩ ∧ w1.cell? ⟨sb, so + i, none⟩ = some (.int .i64 v) := by
              intro w1 h
              have hbe : Below w.heap.size w w1 := by
                rcases h with h | ⟨d', h⟩ <;> exact h.be
              have := (hv0.out.bel hbe (fun h => hsb.out (by rw [hvn.out] at h; exact h))) i hi'
              rw [hv] at this
              exact this
            obtain ⟨rfl, -⟩ := hrow wr (.inl hWj.out)
            replace hrow := Lib.hid hrow
            replace hr := Lib.hid hr
            clear hcv hv
            go_wp2_with (go_at_call 23; refine hr.out.mono ?_; rintro e w6 ⟨rfl, d', hW', hd'⟩; have cv := (hrow.out w6 (.inr ⟨d', hW'.out⟩)).2)
            refine ⟨⟨i, rfl, by omega, d', hW', hd'⟩, ?_⟩
            simp [intOf]
          · obtain rfl : j = 0 := by omega
            have hr : Calls Try.prog 23 #[.pointer (some ⟨a.s0, 0, none⟩)] wr fun e w' => e = .returned (.tuple #[.int .i64 0, .int .i64 1]) ∧ Hid (Wd w w' a L Bj dj) :=
              (wd_pop_no hWj.out 0 (by decide) hdj).mono fun e w' g => ⟨g.1, Lib.hid g.2.1⟩
            replace hr := Lib.hid hr
            rw [show ((0 : Nat) : Int) - 1 = -1 from rfl]
            go_wp2_with (go_at_call 23; refine hr.out.mono ?_; rintro e w6 ⟨rfl, hW'⟩)
            have hdd := depth_any (hW'.out.st 0 (by decide))
            rw [hdj] at hdd
            refine hdd.mono ?_
            rintro e w7 ⟨rfl, hw_⟩
            have hw_ := hw_.symm
            subst hw_
            go_wp2_with (fail)
            go_returns
            exact ⟨rfl, hW'.out.be⟩
end Go.Proofs.Ytkopgjdnfjgbjaa
