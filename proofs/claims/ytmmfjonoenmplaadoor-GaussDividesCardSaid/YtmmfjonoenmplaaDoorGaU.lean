import Derived.Test.YtmmfjonoenmplaaDoorGaR
namespace Go.Proofs.YtmmfjonoenmplaaDoor
open Go.RowKit Go.Extern.Stop Go.Stop Go.Extern
set_option linter.unusedVariables false
set_option linter.unusedSimpArgs false
/-! the document's Turn, First, Norm -/
theorem turnK_next (j : Nat) (a : Int × Int) : turnK (j + 1) a = rotZ (turnK j a) := (turnK_turnK 1 j a).symm
theorem tmod4 (n : Int) : n.tmod 4 = if 0 ≤ n then n % 4 else -((-n) % 4) := by
  split
  · rename_i h; exact Int.tmod_eq_emod_of_nonneg h
  · have h : n.tmod 4 = -((-n).tmod 4) := by rw [Int.neg_tmod]; omega
    rw [h, Int.tmod_eq_emod_of_nonneg (by omega)]
theorem turn_start (a : Int × Int) (w : World) : ∃ z, turnK 0 a = z ∧ Bk ((w.alloc (.cells #[.int .i64 a.1, .int .i64 a.2] 25)).alloc (.cells #[.int .i64 0, .int .i64 0] 25)) w.heap.size 25 #[.int .i64 z.1, .int .i64 z.2] ∧ Bk ((w.alloc (.cells #[.int .i64 a.1, .int .i64 a.2] 25)).alloc (.cells #[.int .i64 0, .int .i64 0] 25)) (w.heap.size + 1) 25 #[.int .i64 0, .int .i64 0] ∧ Below w.heap.size w ((w.alloc (.cells #[.int .i64 a.1, .int .i64 a.2] 25)).alloc (.cells #[.int .i64 0, .int .i64 0] 25)) := by
  refine ⟨a, rfl, (Bk.fresh w _ _).past _, ?_, ((Below.refl _ w).alloc (Nat.le_refl _) _).alloc (by rw [World.size_alloc]; omega) _⟩
  have h := Bk.fresh (w.alloc (.cells #[.int .i64 a.1, .int .i64 a.2] 25)) 25 #[.int .i64 0, .int .i64 0]
  rw [World.size_alloc] at h
  exact h
set_option maxRecDepth 100000 in
set_option maxHeartbeats 4000000 in
theorem rturn_any (a : Int × Int) (hs : Sm a 1125899906842624) (n : Int) (w : World) : Calls Tryd.prog 35 #[zV a, .int .i64 n] w fun e w' => e = .returned (zV (turnZ a n)) ∧ Below w.heap.size w w' := by
  obtain ⟨k, hk⟩ : ∃ k : Nat, (n % 4).toNat = k := ⟨_, rfl⟩
  have hS := Lib.hid (turn_start a w)
  have e : turnZ a n = turnK k a := by unfold turnZ; rw [hk]
  rw [e]
  replace hs := Lib.hid hs
  unfold zV
  have ht4 := tmod4 n
  by_cases hneg : n.tmod 4 < 0
  · have ht : n.tmod 4 = (k : Int) - 4 := by split at ht4 <;> omega
    have h1 : decide (((k : Int) - 4) < 0) = true := by simp; omega
    have h1' : ((k : Int) - 4) < 0 := by omega
    have w1 : IntKind.i64.wrap ((k : Int) - 4 + 4) = k := by rw [IntKind.wrap_i64]; omega
    have w2 : (k : Int) - 4 + 4 = k := by omega
    have hk4 : k < 4 := by omega
    clear hneg hk e ht4
    go_enter Tryd.func35, Tryd.ntmps35
    go_wp2_with (fail)
    obtain ⟨g, hg⟩ : ∃ g, w.heap.size = g := ⟨_, rfl⟩
    rw [hg] at hS ⊢
    go_loopw [6] (fun x wr => ∃ j : Nat, x = .int .i64 j ∧ j ≤ k ∧ Hid (∃ z, turnK j a = z ∧ Bk wr g 25 #[.int .i64 z.1, .int .i64 z.2] ∧ Bk wr (g + 1) 25 #[.int .i64 0, .int .i64 0] ∧ Below g w wr)) (fun x _ => k - (intOf x).toNat)
    case atStart => exact ⟨0, rfl, Nat.zero_le _, hS⟩
    case round =>
      obtain ⟨j, rfl, hj0, hQ⟩ := hrel
      obtain ⟨z, hz, hK, hL, hB⟩ := hQ.out
      have c0 := hK.cell 0
      have c1 := hK.cell 1
      have f0 := hK.free 0
      have f1 := hK.free 1
      have d0 := hL.cell 0
      have d1 := hL.cell 1
      have e0 := hL.free 0
      have e1 := hL.free 1
      simp at c0 c1 d0 d1
      by_cases hj : j < k
      · have ji : (j : Int) < (k : Int) := by omega
        have hsz : Sm z 1125899906842624 := by rw [← hz]; exact turnK_sm j hs.out
        have w9 : IntKind.i64.wrap (-z.2) = -z.2 := by
          unfold Sm at hsz
          rw [IntKind.wrap_i64]; omega
        have hK2 := (hK.put 0 (.int .i64 (-z.2))).put 1 (.int .i64 z.1)
        have hL2 := (hL.other (p := ⟨g, 0, none⟩) (by simp) (.int .i64 (-z.2))).other (p := ⟨g, 1, none⟩) (by simp) (.int .i64 z.1)
        have hB2 := (hB.setCell (p := ⟨g, 0, none⟩) (Nat.le_refl g) (.int .i64 (-z.2))).setCell (p := ⟨g, 1, none⟩) (Nat.le_refl g) (.int .i64 z.1)
        have hN := Lib.hid (⟨rotZ z, by rw [turnK_next, hz], hK2, hL2, hB2⟩ : ∃ z', turnK (j + 1) a = z' ∧ Bk _ g 25 #[.int .i64 z'.1, .int .i64 z'.2] ∧ Bk _ (g + 1) 25 #[.int .i64 0, .int .i64 0] ∧ Below g w _)
        clear hK hL hB hz hsz hQ hK2 hL2 hB2
        go_wp2_with (fail)
        exact ⟨⟨j + 1, rfl, hj, hN⟩, by simp [intOf]; omega⟩
      · obtain rfl : j = k := by omega
        have hB2 := (hB.setCell (p := ⟨g + 1, 0, none⟩) (Nat.le_succ g) (.int .i64 z.1)).setCell (p := ⟨g + 1, 1, none⟩) (Nat.le_succ g) (.int .i64 z.2)
        replace hB2 := Lib.hid hB2
        replace hz := Lib.hid hz
        clear hK hL hB hQ
        go_wp2_with (fail)
        refine bodyPost_ret (by simp [results, Tryd.results35, go_sem, *]; rfl) rfl ?_
        refine ⟨?_, by rw [hg]; exact hB2.out⟩
        rw [hz.out]
  · have ht : n.tmod 4 = (k : Int) := by split at ht4 <;> omega
    have h1 : ¬ (k : Int) < 0 := by omega
    have hk4 : k < 4 := by omega
    clear hneg hk e ht4
    go_enter Tryd.func35, Tryd.ntmps35
    go_wp2_with (fail)
    obtain ⟨g, hg⟩ : ∃ g, w.heap.size = g := ⟨_, rfl⟩
    rw [hg] at hS ⊢
    go_loopw [6] (fun x wr => ∃ j : Nat, x = .int .i64 j ∧ j ≤ k ∧ Hid (∃ z, turnK j a = z ∧ Bk wr g 25 #[.int .i64 z.1, .int .i64 z.2] ∧ Bk wr (g + 1) 25 #[.int .i64 0, .int .i64 0] ∧ Below g w wr)) (fun x _ => k - (intOf x).toNat)
    case atStart => exact ⟨0, rfl, Nat.zero_le _, hS⟩
    case round =>
      obtain ⟨j, rfl, hj0, hQ⟩ := hrel
      obtain ⟨z, hz, hK, hL, hB⟩ := hQ.out
      have c0 := hK.cell 0
      have c1 := hK.cell 1
      have f0 := hK.free 0
      have f1 := hK.free 1
      have d0 := hL.cell 0
      have d1 := hL.cell 1
      have e0 := hL.free 0
      have e1 := hL.free 1
      simp at c0 c1 d0 d1
      by_cases hj : j < k
      · have ji : (j : Int) < (k : Int) := by omega
        have hsz : Sm z 1125899906842624 := by rw [← hz]; exact turnK_sm j hs.out
        have w9 : IntKind.i64.wrap (-z.2) = -z.2 := by
          unfold Sm at hsz
          rw [IntKind.wrap_i64]; omega
        have hK2 := (hK.put 0 (.int .i64 (-z.2))).put 1 (.int .i64 z.1)
        have hL2 := (hL.other (p := ⟨g, 0, none⟩) (by simp) (.int .i64 (-z.2))).other (p := ⟨g, 1, none⟩) (by simp) (.int .i64 z.1)
        have hB2 := (hB.setCell (p := ⟨g, 0, none⟩) (Nat.le_refl g) (.int .i64 (-z.2))).setCell (p := ⟨g, 1, none⟩) (Nat.le_refl g) (.int .i64 z.1)
        have hN := Lib.hid (⟨rotZ z, by rw [turnK_next, hz], hK2, hL2, hB2⟩ : ∃ z', turnK (j + 1) a = z' ∧ Bk _ g 25 #[.int .i64 z'.1, .int .i64 z'.2] ∧ Bk _ (g + 1) 25 #[.int .i64 0, .int .i64 0] ∧ Below g w _)
        clear hK hL hB hz hsz hQ hK2 hL2 hB2
        go_wp2_with (fail)
        exact ⟨⟨j + 1, rfl, hj, hN⟩, by simp [intOf]; omega⟩
      · obtain rfl : j = k := by omega
        have hB2 := (hB.setCell (p := ⟨g + 1, 0, none⟩) (Nat.le_succ g) (.int .i64 z.1)).setCell (p := ⟨g + 1, 1, none⟩) (Nat.le_succ g) (.int .i64 z.2)
        replace hB2 := Lib.hid hB2
        replace hz := Lib.hid hz
        clear hK hL hB hQ
        go_wp2_with (fail)
        refine bodyPost_ret (by simp [results, Tryd.results35, go_sem, *]; rfl) rfl ?_
        refine ⟨?_, by rw [hg]; exact hB2.out⟩
        rw [hz.out]
end Go.Proofs.YtmmfjonoenmplaaDoor
