import Derived.Test.YtndgcndmkfjdgaaDoorPlN
import Derived.Test.YtndgcndmkfjdgaaDoorPlL
namespace Go.Proofs.YtndgcndmkfjdgaaDoor
open Go.RowKit Go.Extern.Stop Go.Stop Go.Extern
set_option linter.unusedVariables false
set_option linter.unusedSimpArgs false
/-! the document's Turn, Turned; the law's sameMarks -/
theorem rot_sm {B : Int} {a : Int × Int} (h : Sm a B) : Sm (rotZ a) B := by unfold Sm rotZ at *; simp only; omega
theorem turnK_sm {B : Int} : ∀ (k : Nat) {a : Int × Int}, Sm a B → Sm (turnK k a) B
  | 0, _, h => h
  | k + 1, _, h => turnK_sm k (rot_sm h)
theorem turnZ_sm {B : Int} (k : Int) {a : Int × Int} (h : Sm a B) : Sm (turnZ a k) B := turnK_sm _ h
theorem turnK_next (j : Nat) (a : Int × Int) : turnK (j + 1) a = rotZ (turnK j a) := by induction j generalizing a with
  | zero => rfl
  | succ j ih => exact ih (rotZ a)
theorem tmod4 (n : Int) : n.tmod 4 = if 0 ≤ n then n % 4 else -((-n) % 4) := by
  split
  · rename_i h; exact Int.tmod_eq_emod_of_nonneg h
  · have h : n.tmod 4 = -((-n).tmod 4) := by rw [Int.neg_tmod]; omega
    rw [h, Int.tmod_eq_emod_of_nonneg (by omega)]
theorem turn_start (a : Int × Int) (w : World) : ∃ z, turnK 0 a = z ∧ Bk ((w.alloc (.cells #[.int .i64 a.1, .int .i64 a.2] 58)).alloc (.cells #[.int .i64 0, .int .i64 0] 58)) w.heap.size 58 #[.int .i64 z.1, .int .i64 z.2] ∧ Bk ((w.alloc (.cells #[.int .i64 a.1, .int .i64 a.2] 58)).alloc (.cells #[.int .i64 0, .int .i64 0] 58)) (w.heap.size + 1) 58 #[.int .i64 0, .int .i64 0] ∧ Below w.heap.size w ((w.alloc (.cells #[.int .i64 a.1, .int .i64 a.2] 58)).alloc (.cells #[.int .i64 0, .int .i64 0] 58)) := by
  refine ⟨a, rfl, (Bk.fresh w _ _).past _, ?_, ((Below.refl _ w).alloc (Nat.le_refl _) _).alloc (by rw [World.size_alloc]; omega) _⟩
  have h := Bk.fresh (w.alloc (.cells #[.int .i64 a.1, .int .i64 a.2] 58)) 58 #[.int .i64 0, .int .i64 0]
  rw [World.size_alloc] at h
  exact h
set_option maxRecDepth 100000 in
set_option maxHeartbeats 4000000 in
theorem rturn_any (a : Int × Int) (hs : Sm a 1125899906842624) (n : Int) (w : World) : Calls Tryd.prog 29 #[zV a, .int .i64 n] w fun e w' => e = .returned (zV (turnZ a n)) ∧ Below w.heap.size w w' := by
  obtain ⟨k, hk⟩ : ∃ k : Nat, (n % 4).toNat = k := ⟨_, rfl⟩
  have hS := Lib.hid (turn_start a w)
  have e : turnZ a n = turnK k a := by unfold turnZ; rw [hk]
  rw [e]
  replace hs := Lib.hid hs
  unfold zV
  have ht4 := tmod4 n
  by_cases hneg : n.tmod 4 < 0
  · have ht : n.tmod 4 = (k : Int) - 4 := by split at ht4 <;> omega
    have h1 : decide (((k : Int) - 4) < 0) = true := by simp; omega
    have h1' : ((k : Int) - 4) < 0 := by omega
    have w1 : IntKind.i64.wrap ((k : Int) - 4 + 4) = k := by rw [IntKind.wrap_i64]; omega
    have w2 : (k : Int) - 4 + 4 = k := by omega
    have hk4 : k < 4 := by omega
    clear hneg hk e ht4
    go_enter Tryd.func29, Tryd.ntmps29
    go_wp2_with (fail)
    obtain ⟨g, hg⟩ : ∃ g, w.heap.size = g := ⟨_, rfl⟩
    rw [hg] at hS ⊢
    go_loopw [6] (fun x wr => ∃ j : Nat, x = .int .i64 j ∧ j ≤ k ∧ Hid (∃ z, turnK j a = z ∧ Bk wr g 58 #[.int .i64 z.1, .int .i64 z.2] ∧ Bk wr (g + 1) 58 #[.int .i64 0, .int .i64 0] ∧ Below g w wr)) (fun x _ => k - (intOf x).toNat)
    case atStart => exact ⟨0, rfl, Nat.zero_le _, hS⟩
    case round =>
      obtain ⟨j, rfl, hj0, hQ⟩ := hrel
      obtain ⟨z, hz, hK, hL, hB⟩ := hQ.out
      have c0 := hK.cell 0
      have c1 := hK.cell 1
      have f0 := hK.free 0
      have f1 := hK.free 1
      have d0 := hL.cell 0
      have d1 := hL.cell 1
      have e0 := hL.free 0
      have e1 := hL.free 1
      simp at c0 c1 d0 d1
      by_cases hj : j < k
      · have ji : (j : Int) < (k : Int) := by omega
        have hsz : Sm z 1125899906842624 := by rw [← hz]; exact turnK_sm j hs.out
        have w9 : IntKind.i64.wrap (-z.2) = -z.2 := by
          unfold Sm at hsz
          rw [IntKind.wrap_i64]; omega
        have hK2 := (hK.put 0 (.int .i64 (-z.2))).put 1 (.int .i64 z.1)
        have hL2 := (hL.other (p := ⟨g, 0, none⟩) (by simp) (.int .i64 (-z.2))).other (p := ⟨g, 1, none⟩) (by simp) (.int .i64 z.1)
        have hB2 := (hB.setCell (p := ⟨g, 0, none⟩) (Nat.le_refl g) (.int .i64 (-z.2))).setCell (p := ⟨g, 1, none⟩) (Nat.le_refl g) (.int .i64 z.1)
        have hN := Lib.hid (⟨rotZ z, by rw [turnK_next, hz], hK2, hL2, hB2⟩ : ∃ z', turnK (j + 1) a = z' ∧ Bk _ g 58 #[.int .i64 z'.1, .int .i64 z'.2] ∧ Bk _ (g + 1) 58 #[.int .i64 0, .int .i64 0] ∧ Below g w _)
        clear hK hL hB hz hsz hQ hK2 hL2 hB2
        go_wp2_with (fail)
        exact ⟨⟨j + 1, rfl, hj, hN⟩, by simp [intOf]; omega⟩
      · obtain rfl : j = k := by omega
        have hB2 := (hB.setCell (p := ⟨g + 1, 0, none⟩) (Nat.le_succ g) (.int .i64 z.1)).setCell (p := ⟨g + 1, 1, none⟩) (Nat.le_succ g) (.int .i64 z.2)
        replace hB2 := Lib.hid hB2
        replace hz := Lib.hid hz
        clear hK hL hB hQ
        go_wp2_with (fail)
        refine bodyPost_ret (by simp [results, Tryd.results29, go_sem, *]; rfl) rfl ?_
        refine ⟨?_, by rw [hg]; exact hB2.out⟩
        rw [hz.out]
  · have ht : n.tmod 4 = (k : Int) := by split at ht4 <;> omega
    have h1 : ¬ (k : Int) < 0 := by omega
    have hk4 : k < 4 := by omega
    clear hneg hk e ht4
    go_enter Tryd.func29, Tryd.ntmps29
    go_wp2_with (fail)
    obtain ⟨g, hg⟩ : ∃ g, w.heap.size = g := ⟨_, rfl⟩
    rw [hg] at hS ⊢
    go_loopw [6] (fun x wr => ∃ j : Nat, x = .int .i64 j ∧ j ≤ k ∧ Hid (∃ z, turnK j a = z ∧ Bk wr g 58 #[.int .i64 z.1, .int .i64 z.2] ∧ Bk wr (g + 1) 58 #[.int .i64 0, .int .i64 0] ∧ Below g w wr)) (fun x _ => k - (intOf x).toNat)
    case atStart => exact ⟨0, rfl, Nat.zero_le _, hS⟩
    case round =>
      obtain ⟨j, rfl, hj0, hQ⟩ := hrel
      obtain ⟨z, hz, hK, hL, hB⟩ := hQ.out
      have c0 := hK.cell 0
      have c1 := hK.cell 1
      have f0 := hK.free 0
      have f1 := hK.free 1
      have d0 := hL.cell 0
      have d1 := hL.cell 1
      have e0 := hL.free 0
      have e1 := hL.free 1
      simp at c0 c1 d0 d1
      by_cases hj : j < k
      · have ji : (j : Int) < (k : Int) := by omega
        have hsz : Sm z 1125899906842624 := by rw [← hz]; exact turnK_sm j hs.out
        have w9 : IntKind.i64.wrap (-z.2) = -z.2 := by
          unfold Sm at hsz
          rw [IntKind.wrap_i64]; omega
        have hK2 := (hK.put 0 (.int .i64 (-z.2))).put 1 (.int .i64 z.1)
        have hL2 := (hL.other (p := ⟨g, 0, none⟩) (by simp) (.int .i64 (-z.2))).other (p := ⟨g, 1, none⟩) (by simp) (.int .i64 z.1)
        have hB2 := (hB.setCell (p := ⟨g, 0, none⟩) (Nat.le_refl g) (.int .i64 (-z.2))).setCell (p := ⟨g, 1, none⟩) (Nat.le_refl g) (.int .i64 z.1)
        have hN := Lib.hid (⟨rotZ z, by rw [turnK_next, hz], hK2, hL2, hB2⟩ : ∃ z', turnK (j + 1) a = z' ∧ Bk _ g 58 #[.int .i64 z'.1, .int .i64 z'.2] ∧ Bk _ (g + 1) 58 #[.int .i64 0, .int .i64 0] ∧ Below g w _)
        clear hK hL hB hz hsz hQ hK2 hL2 hB2
        go_wp2_with (fail)
        exact ⟨⟨j + 1, rfl, hj, hN⟩, by simp [intOf]; omega⟩
      · obtain rfl : j = k := by omega
        have hB2 := (hB.setCell (p := ⟨g + 1, 0, none⟩) (Nat.le_succ g) (.int .i64 z.1)).setCell (p := ⟨g + 1, 1, none⟩) (Nat.le_succ g) (.int .i64 z.2)
        replace hB2 := Lib.hid hB2
        replace hz := Lib.hid hz
        clear hK hL hB hQ
        go_wp2_with (fail)
        refine bodyPost_ret (by simp [results, Tryd.results29, go_sem, *]; rfl) rfl ?_
        refine ⟨?_, by rw [hg]; exact hB2.out⟩
        rw [hz.out]

set_option maxRecDepth 100000 in
set_option maxHeartbeats 4000000 in
theorem same_marks (A1 A2 : Option Addr) (zs : List Mk) (n c1 c2 : Nat) (w : World) (hm : zs.length = n) (hn : (n : Int) ≤ 4398046511104) (h1 : Mks w A1 (zs.map mkW)) (h2 : Rks w A2 zs) (hI : ∀ m ∈ zs, inR m) :
    Calls Tryd.prog 34 #[.slice A1 n c1, .slice A2 n c2] w fun e w' => e = .returned (.bool true) ∧ Below w.heap.size w w' := by
  replace h1 := Lib.hid h1
  replace h2 := Lib.hid h2
  replace hI := Lib.hid hI
  replace hm := Lib.hid hm
  go_enter Tryd.func34, Tryd.ntmps34
  go_wp2_with (fail)
  go_loopw [5] (fun x wr => ∃ j : Nat, x = .int .i64 j ∧ j ≤ n ∧ Hid (Below w.heap.size w wr)) (fun x _ => n - (intOf x).toNat)
  case atStart => exact ⟨0, rfl, Nat.zero_le _, Lib.hid (Below.refl _ _)⟩
  case round =>
    obtain ⟨j, rfl, hj0, hW⟩ := hrel
    by_cases hj : j < n
    · have j0 : (j : Int) < (n : Int) := by omega
      have hjl : j < zs.length := by rw [hm.out]; exact hj
      obtain ⟨b, off, rfl, hbl, c0, c1, _⟩ := h1.out j (by rw [List.length_map]; exact hjl)
      obtain ⟨b', off', rfl, hbl', ⟨d0, d1⟩, d2, d3⟩ := h2.out j hjl
      have hg : zs.getD j m0 = zs[j] := by rw [List.getD_eq_getElem?_getD, List.getElem?_eq_getElem hjl]; rfl
      have hin := hI.out zs[j] (List.getElem_mem hjl)
      rw [List.getElem_map] at c0 c1
      rw [hg] at d0 d1 d2 d3
      obtain ⟨⟨⟨a1, a2⟩, b1, b2⟩, hx⟩ : ∃ p, zs[j] = p := ⟨_, rfl⟩
      rw [hx] at c0 c1 d0 d1 d2 d3 hin
      have hi1 := Lib.hid (fun W => is_ok (a1, a2) (sm_mono hin.1 (by decide)) W)
      have hi2 := Lib.hid (fun W => is_ok (b1, b2) (sm_mono hin.2 (by decide)) W)
      unfold cw zV at hi1 hi2
      simp only [mkW, wz] at c0 c1
      simp only at hi1 hi2 d0 d1 d2 d3
      have hcell : ∀ W, Below w.heap.size w W → (W.cell? ⟨b, off + j * 2, none⟩ = some (.complex .f64 (fi a1 false) (fi a2 false)) ∧ W.cell? ⟨b, off + j * 2 + 1, none⟩ = some (.complex .f64 (fi b1 false) (fi b2 false))) ∧ (W.cell? ⟨b', off' + j * 4, none⟩ = some (.int .i64 a1) ∧ W.cell? ⟨b', off' + j * 4 + 1, none⟩ = some (.int .i64 a2)) ∧ W.cell? ⟨b', off' + j * 4 + 2, none⟩ = some (.int .i64 b1) ∧ W.cell? ⟨b', off' + j * 4 + 3, none⟩ = some (.int .i64 b2) := fun W hb =>
        ⟨⟨(hb.cell (p := ⟨b, off + j * 2, none⟩) hbl).trans c0, (hb.cell (p := ⟨b, off + j * 2 + 1, none⟩) hbl).trans c1⟩, ⟨(hb.cell (p := ⟨b', off' + j * 4, none⟩) hbl').trans d0, (hb.cell (p := ⟨b', off' + j * 4 + 1, none⟩) hbl').trans d1⟩, (hb.cell (p := ⟨b', off' + j * 4 + 2, none⟩) hbl').trans d2, (hb.cell (p := ⟨b', off' + j * 4 + 3, none⟩) hbl').trans d3⟩
      replace hcell := Lib.hid hcell
      clear c0 c1 d0 d1 d2 d3 hg hx hin
      obtain ⟨⟨k0, k1⟩, ⟨k2, k3⟩, k4, k5⟩ := hcell.out wr hW.out
      go_upto_region 6 with (fail)
      go_cut [6] from 13 to 46 (fun s wx => s = .bool true ∧ Below w.heap.size w wx)
      case first =>
        go_region_held3 (fun w' => w'.cell? ⟨b, off + j * 2, none⟩ = some (.complex .f64 (fi a1 false) (fi a2 false)) ∧ w'.cell? ⟨b', off' + j * 4, none⟩ = some (.int .i64 a1) ∧ w'.cell? ⟨b', off' + j * 4 + 1, none⟩ = some (.int .i64 a2)) (go_keep) ((go_at_call 31; (with_reducible refine Calls.mono (hi1.out _) ?_); rintro e w1_ ⟨rfl, hb1⟩; replace hW := Lib.hid ((below_drew hW.out).trans (hb1.mono (below_drew hW.out).size)); have kS : w1_.cell? ⟨b, off + j * 2, none⟩ = some (.complex .f64 (fi a1 false) (fi a2 false)) ∧ w1_.cell? ⟨b', off' + j * 4, none⟩ = some (.int .i64 a1) ∧ w1_.cell? ⟨b', off' + j * 4 + 1, none⟩ = some (.int .i64 a2) := ⟨(hcell.out w1_ hW.out).1.1, (hcell.out w1_ hW.out).2.1⟩))
        all_goals (go_wp2_with (fail); go_meet; exact ⟨rfl, hW.out⟩)
      case rest =>
        obtain ⟨rfl, hW2⟩ := hcut
        clear k0 k1 k2 k3 k4 k5 hW
        obtain ⟨⟨k0, k1⟩, ⟨k2, k3⟩, k4, k5⟩ := hcell.out _ hW2
        replace hW2 := Lib.hid hW2
        go_upto_region 7 with (fail)
        go_cut [7] from 13 to 46 (fun s wx => s = .bool true ∧ Below w.heap.size w wx)
        case first =>
          go_region_held3 (fun w' => w'.cell? ⟨b, off + j * 2 + 1, none⟩ = some (.complex .f64 (fi b1 false) (fi b2 false)) ∧ w'.cell? ⟨b', off' + j * 4 + 2, none⟩ = some (.int .i64 b1) ∧ w'.cell? ⟨b', off' + j * 4 + 3, none⟩ = some (.int .i64 b2)) (go_keep) ((go_at_call 31; (with_reducible refine Calls.mono (hi2.out _) ?_); rintro e w1_ ⟨rfl, hb1⟩; replace hW2 := Lib.hid ((below_drew hW2.out).trans (hb1.mono (below_drew hW2.out).size)); have kS : w1_.cell? ⟨b, off + j * 2 + 1, none⟩ = some (.complex .f64 (fi b1 false) (fi b2 false)) ∧ w1_.cell? ⟨b', off' + j * 4 + 2, none⟩ = some (.int .i64 b1) ∧ w1_.cell? ⟨b', off' + j * 4 + 3, none⟩ = some (.int .i64 b2) := ⟨(hcell.out w1_ hW2.out).1.2, (hcell.out w1_ hW2.out).2.2⟩))
          all_goals (go_wp2_with (fail); go_meet; exact ⟨rfl, hW2.out⟩)
        case rest =>
          obtain ⟨rfl, hW3⟩ := hcut
          replace hW3 := Lib.hid hW3
          clear k0 k1 k2 k3 k4 k5 hW2 hi1 hi2 hcell
          go_wp2_with (fail)
          exact ⟨⟨j + 1, rfl, by omega, hW3⟩, by simp [intOf]; omega⟩
    · have j0 : ¬ (j : Int) < (n : Int) := by omega
      go_wp2_with (fail)
      go_returns
      exact ⟨rfl, hW.out⟩
end Go.Proofs.YtndgcndmkfjdgaaDoor
