import Derived.Test.YtpbloennjcjgoaaDoorResH
import Derived.BigRegion
import Derived.Deep.DeepCutAuto
namespace Go.Proofs.YtpbloennjcjgoaaDoor
open Go.RowKit
set_option linter.unusedVariables false
set_option linter.unusedSimpArgs false
/-- two arrays of three texts, somewhere in memory -/
def Two (w W : World) (x y : Value) (s1 d1 r1 s2 d2 r2 : ByteArray) : Prop :=
  ∃ bx by_ : Nat, x = .pointer (some ⟨bx, 0, none⟩) ∧ y = .pointer (some ⟨by_, 0, none⟩) ∧ Bk W bx 88 #[.string s1, .string d1, .string r1] ∧ Bk W by_ 88 #[.string s2, .string d2, .string r2] ∧ Below w.heap.size w W
theorem two_a {w w2 : World} {s1 d1 r1 s2 d2 r2 : ByteArray} (hB : Below w.heap.size w w2) (h : w2.heap.size = w.heap.size + 2) :
    Two w ((w2.alloc (.cells #[.string s1, .string d1, .string r1] 88)).alloc (.cells #[.string s2, .string d2, .string r2] 88)).drew (.pointer (some ⟨w.heap.size + 2, 0, none⟩)) (.pointer (some ⟨w.heap.size + 2 + 1, 0, none⟩)) s1 d1 r1 s2 d2 r2 := by
  have h1 := (Bk.fresh w2 88 #[.string s1, .string d1, .string r1]).past (.cells #[.string s2, .string d2, .string r2] 88)
  have h2 := Bk.fresh (w2.alloc (.cells #[.string s1, .string d1, .string r1] 88)) 88 #[.string s2, .string d2, .string r2]
  have hz : (w2.alloc (.cells #[.string s1, .string d1, .string r1] 88)).heap.size = w2.heap.size + 1 := by simp
  rw [hz] at h2
  rw [h] at h1 h2
  exact ⟨_, _, rfl, rfl, h1, h2, ((hB.alloc (by omega) _).alloc (by simp; omega) _).drew⟩
theorem two_b {w w2 : World} {s1 d1 r1 s2 d2 r2 : ByteArray} (hB : Below w.heap.size w w2) (h : w2.heap.size = w.heap.size + 2) :
    Two w ((w2.alloc (.cells #[.string s2, .string d2, .string r2] 88)).alloc (.cells #[.string s1, .string d1, .string r1] 88)).drew (.pointer (some ⟨w.heap.size + 2 + 1, 0, none⟩)) (.pointer (some ⟨w.heap.size + 2, 0, none⟩)) s1 d1 r1 s2 d2 r2 := by
  obtain ⟨bx, by_, h1, h2, h3, h4, h5⟩ := two_a (s1 := s2) (d1 := d2) (r1 := r2) (s2 := s1) (d2 := d1) (r2 := r1) hB h
  exact ⟨by_, bx, h2, h1, h4, h3, h5⟩
/-- the two arrays, known by their blocks -/
def Rr (w W : World) (bx by_ : Nat) (s1 d1 r1 s2 d2 r2 : ByteArray) : Prop :=
  Bk W bx 88 #[.string s1, .string d1, .string r1] ∧ Bk W by_ 88 #[.string s2, .string d2, .string r2] ∧ Below w.heap.size w W
/-- where two states part -/
def DiffP (s1 d1 r1 s2 d2 r2 : ByteArray) (k d : Int) : Prop :=
  (¬ s1 = s2 ∧ k = 3 ∧ d = (div s1 s2 0 : Int)) ∨ (s1 = s2 ∧ ¬ d1 = d2 ∧ k = 4 ∧ d = (div d1 d2 0 : Int)) ∨ (s1 = s2 ∧ d1 = d2 ∧ ¬ r1 = r2 ∧ k = 5 ∧ d = (div r1 r2 0 : Int)) ∨ (s1 = s2 ∧ d1 = d2 ∧ r1 = r2 ∧ k = 0 ∧ d = 0)
set_option maxHeartbeats 2000000 in
set_option maxRecDepth 100000 in
theorem differ_any (s1 d1 r1 s2 d2 r2 : ByteArray) (h1 l1 h2 l2 : Int) (w : World) (z1 : s1.size ≤ maxLen) (z2 : d1.size ≤ maxLen) (z3 : r1.size ≤ maxLen) (y1 : s2.size ≤ maxLen) (y2 : d2.size ≤ maxLen) (y3 : r2.size ≤ maxLen) :
    Calls Tryd.prog 16 #[stateV s1 d1 r1 h1 l1, stateV s2 d2 r2 h2 l2] w fun e w' => ∃ k d, e = .returned (.tuple #[.int .i64 k, .int .i64 d]) ∧ DiffP s1 d1 r1 s2 d2 r2 k d ∧ Below w.heap.size w w' := by
  unfold stateV
  go_enter Tryd.func16, Tryd.ntmps16
  go_upto_region 1 with (fail)
  go_cut [6, 7] (fun x y wx => Two w wx x y s1 d1 r1 s2 d2 r2)
  case first =>
    have hK1 := (Bk.fresh w 23 #[.string s1, .string d1, .string r1, .int .i64 h1, .int .i64 l1]).past (.cells #[.string s2, .string d2, .string r2, .int .i64 h2, .int .i64 l2] 23)
    have hK2 := Bk.fresh (w.alloc (.cells #[.string s1, .string d1, .string r1, .int .i64 h1, .int .i64 l1] 23)) 23 #[.string s2, .string d2, .string r2, .int .i64 h2, .int .i64 l2]
    have hB := ((Below.refl w.heap.size w).alloc (Nat.le_refl _) (.cells #[.string s1, .string d1, .string r1, .int .i64 h1, .int .i64 l1] 23)).alloc (by simp) (.cells #[.string s2, .string d2, .string r2, .int .i64 h2, .int .i64 l2] 23)
    obtain ⟨w2, hw2⟩ : ∃ w2, (w.alloc (.cells #[.string s1, .string d1, .string r1, .int .i64 h1, .int .i64 l1] 23)).alloc (.cells #[.string s2, .string d2, .string r2, .int .i64 h2, .int .i64 l2] 23) = w2 := ⟨_, rfl⟩
    rw [hw2] at hK1 hK2 hB ⊢
    have hsz : (w.alloc (.cells #[.string s1, .string d1, .string r1, .int .i64 h1, .int .i64 l1] 23)).heap.size = w.heap.size + 1 := by simp
    rw [hsz] at hK2
    have hsz2 : w2.heap.size = w.heap.size + 2 := by rw [← hw2]; simp
    have c0 : w2.cell? ⟨w.heap.size, 0, none⟩ = some (.string s1) := hK1.cell 0
    have c1 : w2.cell? ⟨w.heap.size, 1, none⟩ = some (.string d1) := hK1.cell 1
    have c2 : w2.cell? ⟨w.heap.size, 2, none⟩ = some (.string r1) := hK1.cell 2
    have c3 : w2.cell? ⟨w.heap.size + 1, 0, none⟩ = some (.string s2) := hK2.cell 0
    have c4 : w2.cell? ⟨w.heap.size + 1, 1, none⟩ = some (.string d2) := hK2.cell 1
    have c5 : w2.cell? ⟨w.heap.size + 1, 2, none⟩ = some (.string r2) := hK2.cell 2
    clear hw2 hsz hK1 hK2
    go_region_held3 (fun w' => w'.cell? ⟨w.heap.size, 0, none⟩ = some (.string s1) ∧ w'.cell? ⟨w.heap.size, 1, none⟩ = some (.string d1) ∧ w'.cell? ⟨w.heap.size, 2, none⟩ = some (.string r1) ∧ w'.cell? ⟨w.heap.size + 1, 0, none⟩ = some (.string s2) ∧ w'.cell? ⟨w.heap.size + 1, 1, none⟩ = some (.string d2) ∧ w'.cell? ⟨w.heap.size + 1, 2, none⟩ = some (.string r2)) (go_keep) (fail)
    all_goals (go_wp2_with (fail))
    all_goals go_meet
    all_goals first
      | exact two_a hB hsz2
      | exact two_b hB hsz2
  case rest =>
    obtain ⟨bx, by_, rfl, rfl, hX, hY, hB⟩ := hcut
    have g1 : s1.size ≤ 9223372036854775807 := z1
    have g2 : d1.size ≤ 9223372036854775807 := z2
    have g3 : r1.size ≤ 9223372036854775807 := z3
    have g4 : s2.size ≤ 9223372036854775807 := y1
    have g5 : d2.size ≤ 9223372036854775807 := y2
    have g6 : r2.size ≤ 9223372036854775807 := y3
    have x0 : wc.cell? ⟨bx, 0, none⟩ = some (.string s1) := hX.cell 0
    have x1 : wc.cell? ⟨bx, 1, none⟩ = some (.string d1) := hX.cell 1
    have x2 : wc.cell? ⟨bx, 2, none⟩ = some (.string r1) := hX.cell 2
    have y0 : wc.cell? ⟨by_, 0, none⟩ = some (.string s2) := hY.cell 0
    have y1 : wc.cell? ⟨by_, 1, none⟩ = some (.string d2) := hY.cell 1
    have y2 : wc.cell? ⟨by_, 2, none⟩ = some (.string r2) := hY.cell 2
    go_wp2_with (fail)
    refine wp_loop_rounds 4 ?_
    rw [rounds_succ]
    by_cases e1 : s1 = s2
    · have qs1 := str_same s1 s2 e1
      replace e1 := Lib.hid e1
      go_wp2_with (fail)
      go_quiet (fail)
      clear qs1
      replace hX : Bk (wc.drewN nq) bx 88 #[.string s1, .string d1, .string r1] := hX
      replace hY : Bk (wc.drewN nq) by_ 88 #[.string s2, .string d2, .string r2] := hY
      replace hB : Below w.heap.size w (wc.drewN nq) := hB.trans ⟨rfl, rfl, rfl, Nat.le_refl _, fun _ _ => rfl⟩
      clear x0 x1 x2 y0 y1 y2
      obtain ⟨wd, hwd⟩ : ∃ wd, wc.drewN nq = wd := ⟨_, rfl⟩
      rw [hwd] at hX hY hB ⊢
      clear hwd
      have x0 : wd.cell? ⟨bx, 0, none⟩ = some (.string s1) := hX.cell 0
      have x1 : wd.cell? ⟨bx, 1, none⟩ = some (.string d1) := hX.cell 1
      have x2 : wd.cell? ⟨bx, 2, none⟩ = some (.string r1) := hX.cell 2
      have y0 : wd.cell? ⟨by_, 0, none⟩ = some (.string s2) := hY.cell 0
      have y1 : wd.cell? ⟨by_, 1, none⟩ = some (.string d2) := hY.cell 1
      have y2 : wd.cell? ⟨by_, 2, none⟩ = some (.string r2) := hY.cell 2
      go_wp2_with (fail)
      rw [rounds_succ]
      by_cases e2 : d1 = d2
      · have qd1 := str_same d1 d2 e2
        replace e2 := Lib.hid e2
        go_wp2_with (fail)
        go_quiet (fail)
        clear qd1
        replace hX : Bk (wd.drewN nq) bx 88 #[.string s1, .string d1, .string r1] := hX
        replace hY : Bk (wd.drewN nq) by_ 88 #[.string s2, .string d2, .string r2] := hY
        replace hB : Below w.heap.size w (wd.drewN nq) := hB.trans ⟨rfl, rfl, rfl, Nat.le_refl _, fun _ _ => rfl⟩
        clear x0 x1 x2 y0 y1 y2
        obtain ⟨we, hwe⟩ : ∃ we, wd.drewN nq = we := ⟨_, rfl⟩
        rw [hwe] at hX hY hB ⊢
        clear hwe
        have x0 : we.cell? ⟨bx, 0, none⟩ = some (.string s1) := hX.cell 0
        have x1 : we.cell? ⟨bx, 1, none⟩ = some (.string d1) := hX.cell 1
        have x2 : we.cell? ⟨bx, 2, none⟩ = some (.string r1) := hX.cell 2
        have y0 : we.cell? ⟨by_, 0, none⟩ = some (.string s2) := hY.cell 0
        have y1 : we.cell? ⟨by_, 1, none⟩ = some (.string d2) := hY.cell 1
        have y2 : we.cell? ⟨by_, 2, none⟩ = some (.string r2) := hY.cell 2
        go_wp2_with (fail)
        rw [rounds_succ]
        by_cases e3 : r1 = r2
        · have qr1 := str_same r1 r2 e3
          replace e3 := Lib.hid e3
          go_wp2_with (fail)
          go_quiet (fail)
          clear qr1
          replace hX : Bk (we.drewN nq) bx 88 #[.string s1, .string d1, .string r1] := hX
          replace hY : Bk (we.drewN nq) by_ 88 #[.string s2, .string d2, .string r2] := hY
          replace hB : Below w.heap.size w (we.drewN nq) := hB.trans ⟨rfl, rfl, rfl, Nat.le_refl _, fun _ _ => rfl⟩
          clear x0 x1 x2 y0 y1 y2
          obtain ⟨wf, hwf⟩ : ∃ wf, we.drewN nq = wf := ⟨_, rfl⟩
          rw [hwf] at hX hY hB ⊢
          clear hwf
          have x0 : wf.cell? ⟨bx, 0, none⟩ = some (.string s1) := hX.cell 0
          have x1 : wf.cell? ⟨bx, 1, none⟩ = some (.string d1) := hX.cell 1
          have x2 : wf.cell? ⟨bx, 2, none⟩ = some (.string r1) := hX.cell 2
          have y0 : wf.cell? ⟨by_, 0, none⟩ = some (.string s2) := hY.cell 0
          have y1 : wf.cell? ⟨by_, 1, none⟩ = some (.string d2) := hY.cell 1
          have y2 : wf.cell? ⟨by_, 2, none⟩ = some (.string r2) := hY.cell 2
          go_wp2_with (fail)
          rw [rounds_succ]
          go_wp2_with (fail)
          go_returns
          exact ⟨0, 0, rfl, .inr (.inr (.inr ⟨e1.out, e2.out, e3.out, rfl, rfl⟩)), hB⟩
        · have qr := str_other r1 r2 e3
          replace e3 : Hid (¬ r1 = r2) := e3
          go_wp2_with (fail)
          go_quiet (fail)
          go_wp2_with (fail)
          go_loopw [9] (fun i wr => ∃ j : Nat, i = .int .i64 j ∧ j ≤ r1.size ∧ j ≤ r2.size ∧ div r1 r2 0 = div r1 r2 j ∧ Rr w wr bx by_ s1 d1 r1 s2 d2 r2) (fun i _ => r1.size - (intOf i).toNat)
          case atStart => exact ⟨0, rfl, by omega, by omega, rfl, hX, hY, hB.trans ⟨rfl, rfl, rfl, Nat.le_refl _, fun _ _ => rfl⟩⟩
          case round =>
            obtain ⟨j, rfl, hj, hj2, hE, hR⟩ := hrel
            replace hE := Lib.hid hE
            have x0 : wr.cell? ⟨bx, 0, none⟩ = some (.string s1) := hR.1.cell 0
            have x1 : wr.cell? ⟨bx, 1, none⟩ = some (.string d1) := hR.1.cell 1
            have x2 : wr.cell? ⟨bx, 2, none⟩ = some (.string r1) := hR.1.cell 2
            have y0 : wr.cell? ⟨by_, 0, none⟩ = some (.string s2) := hR.2.1.cell 0
            have y1 : wr.cell? ⟨by_, 1, none⟩ = some (.string d2) := hR.2.1.cell 1
            have y2 : wr.cell? ⟨by_, 2, none⟩ = some (.string r2) := hR.2.1.cell 2
            replace hR := Lib.hid hR
            have j0 : (0 : Int) ≤ j := by omega
            by_cases h1 : j < r1.size
            · by_cases h2 : j < r2.size
              · have i1 : (j : Int) < r1.size := by omega
                have i2 : (j : Int) < r2.size := by omega
                rcases Nat.lt_or_ge r2.size r1.size with hba | hba
                · have k2 : (r2.size : Int) < r1.size := by omega
                  by_cases hq : r1[j] = r2[j]
                  · have hg := Lib.hid (hE.out.trans (div_go r1 r2 j h1 h2 hq))
                    have q : (((r1[j]).toNat : Int) == (r2[j]).toNat) = true := by rw [hq]; simp
                    replace hq := Lib.hid hq
                    go_wp2_with (fail)
                    go_quiet (fail)
                    go_wp2_with (fail)
                    exact ⟨⟨j + 1, by go_num, by omega, by omega, hg.out, hR.out.1, hR.out.2.1, hR.out.2.2.trans ⟨rfl, rfl, rfl, Nat.le_refl _, fun _ _ => rfl⟩⟩, by simp [intOf]; omega⟩
                  · have hg := Lib.hid (hE.out.trans (div_no r1 r2 j h1 h2 hq))
                    have q : (((r1[j]).toNat : Int) == (r2[j]).toNat) = false := by
                      rw [beq_eq_false_iff_ne]; intro g; exact hq (UInt8.toNat_inj.1 (by omega))
                    replace hq : Hid (¬ r1[j] = r2[j]) := hq
                    go_wp2_with (fail)
                    go_quiet (fail)
                    go_wp2_with (fail)
                    go_returns
                    exact ⟨5, j, rfl, .inr (.inr (.inl ⟨e1.out, e2.out, e3.out, rfl, by rw [hg.out]⟩)), hR.out.2.2.trans ⟨rfl, rfl, rfl, Nat.le_refl _, fun _ _ => rfl⟩⟩
                · have k2 : (r1.size : Int) ≤ r2.size := by omega
                  by_cases hq : r1[j] = r2[j]
                  · have hg := Lib.hid (hE.out.trans (div_go r1 r2 j h1 h2 hq))
                    have q : (((r1[j]).toNat : Int) == (r2[j]).toNat) = true := by rw [hq]; simp
                    replace hq := Lib.hid hq
                    go_wp2_with (fail)
                    go_quiet (fail)
                    go_wp2_with (fail)
                    exact ⟨⟨j + 1, by go_num, by omega, by omega, hg.out, hR.out.1, hR.out.2.1, hR.out.2.2.trans ⟨rfl, rfl, rfl, Nat.le_refl _, fun _ _ => rfl⟩⟩, by simp [intOf]; omega⟩
                  · have hg := Lib.hid (hE.out.trans (div_no r1 r2 j h1 h2 hq))
                    have q : (((r1[j]).toNat : Int) == (r2[j]).toNat) = false := by
                      rw [beq_eq_false_iff_ne]; intro g; exact hq (UInt8.toNat_inj.1 (by omega))
                    replace hq : Hid (¬ r1[j] = r2[j]) := hq
                    go_wp2_with (fail)
                    go_quiet (fail)
                    go_wp2_with (fail)
                    go_returns
                    exact ⟨5, j, rfl, .inr (.inr (.inl ⟨e1.out, e2.out, e3.out, rfl, by rw [hg.out]⟩)), hR.out.2.2.trans ⟨rfl, rfl, rfl, Nat.le_refl _, fun _ _ => rfl⟩⟩
              · have hg := Lib.hid (hE.out.trans (div_end r1 r2 j (by omega)))
                have k1 : (r2.size : Int) ≤ j := by omega
                have k2 : (r2.size : Int) < r1.size := by omega
                go_wp2_with (fail)
                go_quiet (fail)
                go_wp2_with (fail)
                go_returns
                exact ⟨5, j, rfl, .inr (.inr (.inl ⟨e1.out, e2.out, e3.out, rfl, by rw [hg.out]⟩)), hR.out.2.2.trans ⟨rfl, rfl, rfl, Nat.le_refl _, fun _ _ => rfl⟩⟩
            · have hg := Lib.hid (hE.out.trans (div_end r1 r2 j (by omega)))
              have k1 : (r1.size : Int) ≤ j := by omega
              have k2 : (r1.size : Int) ≤ r2.size := by omega
              go_wp2_with (fail)
              go_quiet (fail)
              go_wp2_with (fail)
              go_returns
              exact ⟨5, j, rfl, .inr (.inr (.inl ⟨e1.out, e2.out, e3.out, rfl, by rw [hg.out]⟩)), hR.out.2.2.trans ⟨rfl, rfl, rfl, Nat.le_refl _, fun _ _ => rfl⟩⟩
      · have qd := str_other d1 d2 e2
        replace e2 : Hid (¬ d1 = d2) := e2
        go_wp2_with (fail)
        go_quiet (fail)
        go_wp2_with (fail)
        go_loopw [9] (fun i wr => ∃ j : Nat, i = .int .i64 j ∧ j ≤ d1.size ∧ j ≤ d2.size ∧ div d1 d2 0 = div d1 d2 j ∧ Rr w wr bx by_ s1 d1 r1 s2 d2 r2) (fun i _ => d1.size - (intOf i).toNat)
        case atStart => exact ⟨0, rfl, by omega, by omega, rfl, hX, hY, hB.trans ⟨rfl, rfl, rfl, Nat.le_refl _, fun _ _ => rfl⟩⟩
        case round =>
          obtain ⟨j, rfl, hj, hj2, hE, hR⟩ := hrel
          replace hE := Lib.hid hE
          have x0 : wr.cell? ⟨bx, 0, none⟩ = some (.string s1) := hR.1.cell 0
          have x1 : wr.cell? ⟨bx, 1, none⟩ = some (.string d1) := hR.1.cell 1
          have x2 : wr.cell? ⟨bx, 2, none⟩ = some (.string r1) := hR.1.cell 2
          have y0 : wr.cell? ⟨by_, 0, none⟩ = some (.string s2) := hR.2.1.cell 0
          have y1 : wr.cell? ⟨by_, 1, none⟩ = some (.string d2) := hR.2.1.cell 1
          have y2 : wr.cell? ⟨by_, 2, none⟩ = some (.string r2) := hR.2.1.cell 2
          replace hR := Lib.hid hR
          have j0 : (0 : Int) ≤ j := by omega
          by_cases h1 : j < d1.size
          · by_cases h2 : j < d2.size
            · have i1 : (j : Int) < d1.size := by omega
              have i2 : (j : Int) < d2.size := by omega
              rcases Nat.lt_or_ge d2.size d1.size with hba | hba
              · have k2 : (d2.size : Int) < d1.size := by omega
                by_cases hq : d1[j] = d2[j]
                · have hg := Lib.hid (hE.out.trans (div_go d1 d2 j h1 h2 hq))
                  have q : (((d1[j]).toNat : Int) == (d2[j]).toNat) = true := by rw [hq]; simp
                  replace hq := Lib.hid hq
                  go_wp2_with (fail)
                  go_quiet (fail)
                  go_wp2_with (fail)
                  exact ⟨⟨j + 1, by go_num, by omega, by omega, hg.out, hR.out.1, hR.out.2.1, hR.out.2.2.trans ⟨rfl, rfl, rfl, Nat.le_refl _, fun _ _ => rfl⟩⟩, by simp [intOf]; omega⟩
                · have hg := Lib.hid (hE.out.trans (div_no d1 d2 j h1 h2 hq))
                  have q : (((d1[j]).toNat : Int) == (d2[j]).toNat) = false := by
                    rw [beq_eq_false_iff_ne]; intro g; exact hq (UInt8.toNat_inj.1 (by omega))
                  replace hq : Hid (¬ d1[j] = d2[j]) := hq
                  go_wp2_with (fail)
                  go_quiet (fail)
                  go_wp2_with (fail)
                  go_returns
                  exact ⟨4, j, rfl, .inr (.inl ⟨e1.out, e2.out, rfl, by rw [hg.out]⟩), hR.out.2.2.trans ⟨rfl, rfl, rfl, Nat.le_refl _, fun _ _ => rfl⟩⟩
              · have k2 : (d1.size : Int) ≤ d2.size := by omega
                by_cases hq : d1[j] = d2[j]
                · have hg := Lib.hid (hE.out.trans (div_go d1 d2 j h1 h2 hq))
                  have q : (((d1[j]).toNat : Int) == (d2[j]).toNat) = true := by rw [hq]; simp
                  replace hq := Lib.hid hq
                  go_wp2_with (fail)
                  go_quiet (fail)
                  go_wp2_with (fail)
                  exact ⟨⟨j + 1, by go_num, by omega, by omega, hg.out, hR.out.1, hR.out.2.1, hR.out.2.2.trans ⟨rfl, rfl, rfl, Nat.le_refl _, fun _ _ => rfl⟩⟩, by simp [intOf]; omega⟩
                · have hg := Lib.hid (hE.out.trans (div_no d1 d2 j h1 h2 hq))
                  have q : (((d1[j]).toNat : Int) == (d2[j]).toNat) = false := by
                    rw [beq_eq_false_iff_ne]; intro g; exact hq (UInt8.toNat_inj.1 (by omega))
                  replace hq : Hid (¬ d1[j] = d2[j]) := hq
                  go_wp2_with (fail)
                  go_quiet (fail)
                  go_wp2_with (fail)
                  go_returns
                  exact ⟨4, j, rfl, .inr (.inl ⟨e1.out, e2.out, rfl, by rw [hg.out]⟩), hR.out.2.2.trans ⟨rfl, rfl, rfl, Nat.le_refl _, fun _ _ => rfl⟩⟩
            · have hg := Lib.hid (hE.out.trans (div_end d1 d2 j (by omega)))
              have k1 : (d2.size : Int) ≤ j := by omega
              have k2 : (d2.size : Int) < d1.size := by omega
              go_wp2_with (fail)
              go_quiet (fail)
              go_wp2_with (fail)
              go_returns
              exact ⟨4, j, rfl, .inr (.inl ⟨e1.out, e2.out, rfl, by rw [hg.out]⟩), hR.out.2.2.trans ⟨rfl, rfl, rfl, Nat.le_refl _, fun _ _ => rfl⟩⟩
          · have hg := Lib.hid (hE.out.trans (div_end d1 d2 j (by omega)))
            have k1 : (d1.size : Int) ≤ j := by omega
            have k2 : (d1.size : Int) ≤ d2.size := by omega
            go_wp2_with (fail)
            go_quiet (fail)
            go_wp2_with (fail)
            go_returns
            exact ⟨4, j, rfl, .inr (.inl ⟨e1.out, e2.out, rfl, by rw [hg.out]⟩), hR.out.2.2.trans ⟨rfl, rfl, rfl, Nat.le_refl _, fun _ _ => rfl⟩⟩
    · have qs := str_other s1 s2 e1
      replace e1 : Hid (¬ s1 = s2) := e1
      go_wp2_with (fail)
      go_quiet (fail)
      go_wp2_with (fail)
      go_loopw [9] (fun i wr => ∃ j : Nat, i = .int .i64 j ∧ j ≤ s1.size ∧ j ≤ s2.size ∧ div s1 s2 0 = div s1 s2 j ∧ Rr w wr bx by_ s1 d1 r1 s2 d2 r2) (fun i _ => s1.size - (intOf i).toNat)
      case atStart => exact ⟨0, rfl, by omega, by omega, rfl, hX, hY, hB.trans ⟨rfl, rfl, rfl, Nat.le_refl _, fun _ _ => rfl⟩⟩
      case round =>
        obtain ⟨j, rfl, hj, hj2, hE, hR⟩ := hrel
        replace hE := Lib.hid hE
        have x0 : wr.cell? ⟨bx, 0, none⟩ = some (.string s1) := hR.1.cell 0
        have x1 : wr.cell? ⟨bx, 1, none⟩ = some (.string d1) := hR.1.cell 1
        have x2 : wr.cell? ⟨bx, 2, none⟩ = some (.string r1) := hR.1.cell 2
        have y0 : wr.cell? ⟨by_, 0, none⟩ = some (.string s2) := hR.2.1.cell 0
        have y1 : wr.cell? ⟨by_, 1, none⟩ = some (.string d2) := hR.2.1.cell 1
        have y2 : wr.cell? ⟨by_, 2, none⟩ = some (.string r2) := hR.2.1.cell 2
        replace hR := Lib.hid hR
        have j0 : (0 : Int) ≤ j := by omega
        by_cases h1 : j < s1.size
        · by_cases h2 : j < s2.size
          · have i1 : (j : Int) < s1.size := by omega
            have i2 : (j : Int) < s2.size := by omega
            rcases Nat.lt_or_ge s2.size s1.size with hba | hba
            · have k2 : (s2.size : Int) < s1.size := by omega
              by_cases hq : s1[j] = s2[j]
              · have hg := Lib.hid (hE.out.trans (div_go s1 s2 j h1 h2 hq))
                have q : (((s1[j]).toNat : Int) == (s2[j]).toNat) = true := by rw [hq]; simp
                replace hq := Lib.hid hq
                go_wp2_with (fail)
                go_quiet (fail)
                go_wp2_with (fail)
                exact ⟨⟨j + 1, by go_num, by omega, by omega, hg.out, hR.out.1, hR.out.2.1, hR.out.2.2.trans ⟨rfl, rfl, rfl, Nat.le_refl _, fun _ _ => rfl⟩⟩, by simp [intOf]; omega⟩
              · have hg := Lib.hid (hE.out.trans (div_no s1 s2 j h1 h2 hq))
                have q : (((s1[j]).toNat : Int) == (s2[j]).toNat) = false := by
                  rw [beq_eq_false_iff_ne]; intro g; exact hq (UInt8.toNat_inj.1 (by omega))
                replace hq : Hid (¬ s1[j] = s2[j]) := hq
                go_wp2_with (fail)
                go_quiet (fail)
                go_wp2_with (fail)
                go_returns
                exact ⟨3, j, rfl, .inl ⟨e1.out, rfl, by rw [hg.out]⟩, hR.out.2.2.trans ⟨rfl, rfl, rfl, Nat.le_refl _, fun _ _ => rfl⟩⟩
            · have k2 : (s1.size : Int) ≤ s2.size := by omega
              by_cases hq : s1[j] = s2[j]
              · have hg := Lib.hid (hE.out.trans (div_go s1 s2 j h1 h2 hq))
                have q : (((s1[j]).toNat : Int) == (s2[j]).toNat) = true := by rw [hq]; simp
                replace hq := Lib.hid hq
                go_wp2_with (fail)
                go_quiet (fail)
                go_wp2_with (fail)
                exact ⟨⟨j + 1, by go_num, by omega, by omega, hg.out, hR.out.1, hR.out.2.1, hR.out.2.2.trans ⟨rfl, rfl, rfl, Nat.le_refl _, fun _ _ => rfl⟩⟩, by simp [intOf]; omega⟩
              · have hg := Lib.hid (hE.out.trans (div_no s1 s2 j h1 h2 hq))
                have q : (((s1[j]).toNat : Int) == (s2[j]).toNat) = false := by
                  rw [beq_eq_false_iff_ne]; intro g; exact hq (UInt8.toNat_inj.1 (by omega))
                replace hq : Hid (¬ s1[j] = s2[j]) := hq
                go_wp2_with (fail)
                go_quiet (fail)
                go_wp2_with (fail)
                go_returns
                exact ⟨3, j, rfl, .inl ⟨e1.out, rfl, by rw [hg.out]⟩, hR.out.2.2.trans ⟨rfl, rfl, rfl, Nat.le_refl _, fun _ _ => rfl⟩⟩
          · have hg := Lib.hid (hE.out.trans (div_end s1 s2 j (by omega)))
            have k1 : (s2.size : Int) ≤ j := by omega
            have k2 : (s2.size : Int) < s1.size := by omega
            go_wp2_with (fail)
            go_quiet (fail)
            go_wp2_with (fail)
            go_returns
            exact ⟨3, j, rfl, .inl ⟨e1.out, rfl, by rw [hg.out]⟩, hR.out.2.2.trans ⟨rfl, rfl, rfl, Nat.le_refl _, fun _ _ => rfl⟩⟩
        · have hg := Lib.hid (hE.out.trans (div_end s1 s2 j (by omega)))
          have k1 : (s1.size : Int) ≤ j := by omega
          have k2 : (s1.size : Int) ≤ s2.size := by omega
          go_wp2_with (fail)
          go_quiet (fail)
          go_wp2_with (fail)
          go_returns
          exact ⟨3, j, rfl, .inl ⟨e1.out, rfl, by rw [hg.out]⟩, hR.out.2.2.trans ⟨rfl, rfl, rfl, Nat.le_refl _, fun _ _ => rfl⟩⟩
end Go.Proofs.YtpbloennjcjgoaaDoor
