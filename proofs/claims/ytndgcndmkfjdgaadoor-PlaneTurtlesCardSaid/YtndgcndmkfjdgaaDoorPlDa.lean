import Derived.Test.YtndgcndmkfjdgaaDoorPlQ
namespace Go.Proofs.YtndgcndmkfjdgaaDoor
open Go.RowKit Go.Extern.Stop Go.Stop Go.Extern
set_option linter.unusedVariables false
set_option linter.unusedSimpArgs false
/-! the document's between, sign -/
set_option maxRecDepth 100000 in
theorem rbetween_any (x a b : Int) (w : World) : Calls Tryd.prog 69 #[.int .i64 x, .int .i64 a, .int .i64 b] w fun e w' => e = .returned (.bool (decide (betw x a b))) ∧ w' = w := by
  obtain ⟨v, hv⟩ : ∃ v, decide (betw x a b) = v := ⟨_, rfl⟩
  rw [hv]
  by_cases h1 : a < x <;> by_cases h2 : x < b <;> by_cases h3 : b < x <;> by_cases h4 : x < a
  all_goals first
    | omega
    | (have hr : v = true := by rw [← hv]; exact decide_eq_true (by unfold betw; omega)
       subst hr
       clear hv
       go_enter Tryd.func69, Tryd.ntmps69
       go_wp2_with (fail)
       go_returns
       exact ⟨rfl, rfl⟩)
    | (have hr : v = false := by rw [← hv]; exact decide_eq_false (by unfold betw; omega)
       subst hr
       clear hv
       go_enter Tryd.func69, Tryd.ntmps69
       go_wp2_with (fail)
       go_returns
       exact ⟨rfl, rfl⟩)
/-- one mark more, as the document has it -/
theorem rsign_step (a1 a2 b1 b2 p q : Int) (l : List Mk) (a u : Bool) (hax : ¬ ((a1 = b1) ↔ (a2 = b2))) :
    signF (((a1, a2), b1, b2) :: l) (p, q) a u = bif (decide (a1 = p) && decide (a2 = q)) || (decide (b1 = p) && decide (b2 = q)) then 43 else signF l (p, q) (a || (decide (a2 = q) && decide (b2 = q) && decide (betw p a1 b1))) (u || (decide (a1 = p) && decide (b1 = p) && decide (betw q a2 b2))) := by
  rw [sign_step a1 a2 b1 b2 p q l a u _ _ _ _ _ _ rfl rfl rfl rfl rfl rfl]
  cases hc : (decide (a1 = p) && decide (a2 = q)) || (decide (b1 = p) && decide (b2 = q))
  · rw [cond_false, cond_false]
    by_cases h1 : a2 = q ∧ b2 = q
    · have hn : ¬ (a1 = p ∧ b1 = p) := by rintro ⟨g1, g2⟩; exact hax ⟨fun _ => by omega, fun _ => by omega⟩
      have e2 : (decide (a1 = p) && decide (b1 = p)) = false := by rw [Bool.eq_false_iff]; intro h; exact hn (by simpa using h)
      have e1 : (decide (a2 = q) && decide (b2 = q)) = true := by simp [h1.1, h1.2]
      rw [e1, e2]
      cases decide (betw p a1 b1) <;> simp
    · have e1 : (decide (a2 = q) && decide (b2 = q)) = false := by rw [Bool.eq_false_iff]; intro h; exact h1 (by simpa using h)
      rw [e1]
      cases (decide (a1 = p) && decide (b1 = p) && decide (betw q a2 b2)) <;> simp
  · rw [cond_true, cond_true]
set_option maxRecDepth 100000 in
set_option maxHeartbeats 8000000 in
theorem rsign_any (A : Option Addr) (zs : List Mk) (n c : Nat) (p q : Int) (w : World) (hm : zs.length = n) (hn : n ≤ 4096) (h : Rks w A zs) (hR : rightZ zs) :
    Calls Tryd.prog 49 #[.slice A n c, .int .i64 p, .int .i64 q] w fun e w' => e = .returned (.int .u8 ((signZ zs (p, q)).toNat : Int)) ∧ Below w.heap.size w w' := by
  have hn4 : (n : Int) ≤ 4096 := by omega
  obtain ⟨sg, hsg⟩ : ∃ sg, signZ zs (p, q) = sg := ⟨_, rfl⟩
  have hst : signF (zs.drop 0) (p, q) false false = sg := by rw [List.drop_zero]; exact hsg
  rw [hsg]
  replace h := Lib.hid h
  replace hm := Lib.hid hm
  replace hR := Lib.hid hR
  replace hst := Lib.hid hst
  clear hsg
  go_enter Tryd.func49, Tryd.ntmps49
  go_wp2_with (fail)
  go_loopw [7, 8, 9] (fun s t x wr => ∃ (a u : Bool) (j : Nat), s = .bool a ∧ t = .bool u ∧ x = .int .i64 j ∧ j ≤ n ∧ Hid (signF (zs.drop j) (p, q) a u = sg ∧ Below w.heap.size w wr)) (fun _ _ x _ => n - (intOf x).toNat)
  case atStart => exact ⟨false, false, 0, rfl, rfl, rfl, Nat.zero_le _, Lib.hid ⟨hst.out, Below.refl _ _⟩⟩
  case round =>
    obtain ⟨a, u, j, rfl, rfl, rfl, hj0, hQ⟩ := hrel
    by_cases hj : j < n
    · have j0 : (j : Int) < (n : Int) := by omega
      have hjl : j < zs.length := by rw [hm.out]; exact hj
      obtain ⟨b, off, rfl, hbl, hcc⟩ := h.out j hjl
      have hax := (hR.out.2 j hjl)
      have hB := hQ.out.2
      have hcc := rks_cells hB hbl hcc
      have hsF := hQ.out.1
      rw [drop_at hjl] at hsF
      obtain ⟨⟨⟨a1, a2⟩, b1, b2⟩, hx⟩ : ∃ m, zs.getD j m0 = m := ⟨_, rfl⟩
      rw [hx] at hcc hax hsF
      unfold axisZ at hax
      simp only at hcc hax
      rw [rsign_step a1 a2 b1 b2 p q _ a u hax] at hsF
      obtain ⟨⟨c0, c1⟩, c2, c3⟩ := hcc
      have hB1 := hB.alloc hB.size (.cells #[.int .i64 a1, .int .i64 a2] 58)
      have c2' := (((Below.refl wr.heap.size wr).alloc (Nat.le_refl _) (.cells #[.int .i64 a1, .int .i64 a2] 58)).cell (p := ⟨b, off + j * 4 + 2, none⟩) (Nat.lt_of_lt_of_le hbl hB.size)).trans c2
      have c3' := (((Below.refl wr.heap.size wr).alloc (Nat.le_refl _) (.cells #[.int .i64 a1, .int .i64 a2] 58)).cell (p := ⟨b, off + j * 4 + 3, none⟩) (Nat.lt_of_lt_of_le hbl hB.size)).trans c3
      have hB2 := hB1.alloc hB1.size (.cells #[.int .i64 b1, .int .i64 b2] 58)
      have hbt1 := Lib.hid (fun W => rbetween_any p a1 b1 W)
      have hbt2 := Lib.hid (fun W => rbetween_any q a2 b2 W)
      obtain ⟨i1, hi1⟩ : ∃ i, decide (betw p a1 b1) = i := ⟨_, rfl⟩
      obtain ⟨i2, hi2⟩ : ∃ i, decide (betw q a2 b2) = i := ⟨_, rfl⟩
      rw [hi1] at hbt1 hsF
      rw [hi2] at hbt2 hsF
      replace hB2 := Lib.hid hB2
      obtain ⟨t1, ht1⟩ : ∃ t, (a1 == p) = t := ⟨_, rfl⟩
      obtain ⟨t2, ht2⟩ : ∃ t, (a2 == q) = t := ⟨_, rfl⟩
      obtain ⟨t3, ht3⟩ : ∃ t, (b1 == p) = t := ⟨_, rfl⟩
      obtain ⟨t4, ht4⟩ : ∃ t, (b2 == q) = t := ⟨_, rfl⟩
      rw [show decide (a1 = p) = t1 from ht1, show decide (a2 = q) = t2 from ht2, show decide (b1 = p) = t3 from ht3, show decide (b2 = q) = t4 from ht4] at hsF
      clear hB hB1 hi1 hi2 hx hax hbl hjl
      cases t1 <;> cases t2 <;> cases t3 <;> cases t4
      · have z9 := j0
        simp only [Bool.false_or, Bool.or_false, Bool.true_or, Bool.or_true, Bool.true_and, Bool.and_true, Bool.false_and, Bool.and_false, cond_false, cond_true] at hsF
        replace hsF := Lib.hid hsF
        clear hQ h hR hst hbt1 hbt2
        go_wp2_with (fail)
        exact ⟨⟨_, _, j + 1, rfl, rfl, rfl, by omega, Lib.hid ⟨hsF.out, hB2.out⟩⟩, by simp [intOf]; omega⟩
      · have z9 := j0
        simp only [Bool.false_or, Bool.or_false, Bool.true_or, Bool.or_true, Bool.true_and, Bool.and_true, Bool.false_and, Bool.and_false, cond_false, cond_true] at hsF
        replace hsF := Lib.hid hsF
        clear hQ h hR hst hbt1 hbt2
        go_wp2_with (fail)
        exact ⟨⟨_, _, j + 1, rfl, rfl, rfl, by omega, Lib.hid ⟨hsF.out, hB2.out⟩⟩, by simp [intOf]; omega⟩
      · have z9 := j0
        simp only [Bool.false_or, Bool.or_false, Bool.true_or, Bool.or_true, Bool.true_and, Bool.and_true, Bool.false_and, Bool.and_false, cond_false, cond_true] at hsF
        replace hsF := Lib.hid hsF
        clear hQ h hR hst hbt1 hbt2
        go_wp2_with (fail)
        exact ⟨⟨_, _, j + 1, rfl, rfl, rfl, by omega, Lib.hid ⟨hsF.out, hB2.out⟩⟩, by simp [intOf]; omega⟩
      · have z9 := j0
        simp only [Bool.false_or, Bool.or_false, Bool.true_or, Bool.or_true, Bool.true_and, Bool.and_true, Bool.false_and, Bool.and_false, cond_false, cond_true] at hsF
        subst hsF
        clear hQ h hR hst hbt1 hbt2
        go_wp2_with (fail)
        go_returns
        exact ⟨rfl, hB2.out⟩
      · have z9 := j0
        simp only [Bool.false_or, Bool.or_false, Bool.true_or, Bool.or_true, Bool.true_and, Bool.and_true, Bool.false_and, Bool.and_false, cond_false, cond_true] at hsF
        replace hsF := Lib.hid hsF
        clear hQ h hR hst hbt1 hbt2
        go_wp2_with (fail)
        exact ⟨⟨_, _, j + 1, rfl, rfl, rfl, by omega, Lib.hid ⟨hsF.out, hB2.out⟩⟩, by simp [intOf]; omega⟩
      · have z9 := j0
        cases a
        all_goals
          simp only [Bool.false_or, Bool.or_false, Bool.true_or, Bool.or_true, Bool.true_and, Bool.and_true, Bool.false_and, Bool.and_false, cond_false, cond_true] at hsF
          replace hsF := Lib.hid hsF
          clear hQ h hR hst
          go_wp2_with (fail)
          refine (hbt1.out _).mono ?_
          rintro e w3 ⟨rfl, rfl⟩
          go_wp2_with (fail)
          exact ⟨⟨_, _, j + 1, rfl, rfl, rfl, by omega, Lib.hid ⟨hsF.out, hB2.out⟩⟩, by simp [intOf]; omega⟩
      · have z9 := j0
        simp only [Bool.false_or, Bool.or_false, Bool.true_or, Bool.or_true, Bool.true_and, Bool.and_true, Bool.false_and, Bool.and_false, cond_false, cond_true] at hsF
        replace hsF := Lib.hid hsF
        clear hQ h hR hst hbt1 hbt2
        go_wp2_with (fail)
        exact ⟨⟨_, _, j + 1, rfl, rfl, rfl, by omega, Lib.hid ⟨hsF.out, hB2.out⟩⟩, by simp [intOf]; omega⟩
      · have z9 := j0
        simp only [Bool.false_or, Bool.or_false, Bool.true_or, Bool.or_true, Bool.true_and, Bool.and_true, Bool.false_and, Bool.and_false, cond_false, cond_true] at hsF
        subst hsF
        clear hQ h hR hst hbt1 hbt2
        go_wp2_with (fail)
        go_returns
        exact ⟨rfl, hB2.out⟩
      · have z9 := j0
        simp only [Bool.false_or, Bool.or_false, Bool.true_or, Bool.or_true, Bool.true_and, Bool.and_true, Bool.false_and, Bool.and_false, cond_false, cond_true] at hsF
        replace hsF := Lib.hid hsF
        clear hQ h hR hst hbt1 hbt2
        go_wp2_with (fail)
        exact ⟨⟨_, _, j + 1, rfl, rfl, rfl, by omega, Lib.hid ⟨hsF.out, hB2.out⟩⟩, by simp [intOf]; omega⟩
      · have z9 := j0
        simp only [Bool.false_or, Bool.or_false, Bool.true_or, Bool.or_true, Bool.true_and, Bool.and_true, Bool.false_and, Bool.and_false, cond_false, cond_true] at hsF
        replace hsF := Lib.hid hsF
        clear hQ h hR hst hbt1 hbt2
        go_wp2_with (fail)
        exact ⟨⟨_, _, j + 1, rfl, rfl, rfl, by omega, Lib.hid ⟨hsF.out, hB2.out⟩⟩, by simp [intOf]; omega⟩
      · have z9 := j0
        cases u
        all_goals
          simp only [Bool.false_or, Bool.or_false, Bool.true_or, Bool.or_true, Bool.true_and, Bool.and_true, Bool.false_and, Bool.and_false, cond_false, cond_true] at hsF
          replace hsF := Lib.hid hsF
          clear hQ h hR hst
          go_wp2_with (fail)
          refine (hbt2.out _).mono ?_
          rintro e w3 ⟨rfl, rfl⟩
          go_wp2_with (fail)
          exact ⟨⟨_, _, j + 1, rfl, rfl, rfl, by omega, Lib.hid ⟨hsF.out, hB2.out⟩⟩, by simp [intOf]; omega⟩
      · have z9 := j0
        simp only [Bool.false_or, Bool.or_false, Bool.true_or, Bool.or_true, Bool.true_and, Bool.and_true, Bool.false_and, Bool.and_false, cond_false, cond_true] at hsF
        subst hsF
        clear hQ h hR hst hbt1 hbt2
        go_wp2_with (fail)
        go_returns
        exact ⟨rfl, hB2.out⟩
      · have z9 := j0
        simp only [Bool.false_or, Bool.or_false, Bool.true_or, Bool.or_true, Bool.true_and, Bool.and_true, Bool.false_and, Bool.and_false, cond_false, cond_true] at hsF
        subst hsF
        clear hQ h hR hst hbt1 hbt2
        go_wp2_with (fail)
        go_returns
        exact ⟨rfl, hB2.out⟩
      · have z9 := j0
        simp only [Bool.false_or, Bool.or_false, Bool.true_or, Bool.or_true, Bool.true_and, Bool.and_true, Bool.false_and, Bool.and_false, cond_false, cond_true] at hsF
        subst hsF
        clear hQ h hR hst hbt1 hbt2
        go_wp2_with (fail)
        go_returns
        exact ⟨rfl, hB2.out⟩
      · have z9 := j0
        simp only [Bool.false_or, Bool.or_false, Bool.true_or, Bool.or_true, Bool.true_and, Bool.and_true, Bool.false_and, Bool.and_false, cond_false, cond_true] at hsF
        subst hsF
        clear hQ h hR hst hbt1 hbt2
        go_wp2_with (fail)
        go_returns
        exact ⟨rfl, hB2.out⟩
      · have z9 := j0
        simp only [Bool.false_or, Bool.or_false, Bool.true_or, Bool.or_true, Bool.true_and, Bool.and_true, Bool.false_and, Bool.and_false, cond_false, cond_true] at hsF
        subst hsF
        clear hQ h hR hst hbt1 hbt2
        go_wp2_with (fail)
        go_returns
        exact ⟨rfl, hB2.out⟩
    · have j0 : ¬ (j : Int) < (n : Int) := by omega
      obtain rfl : j = n := by omega
      have hsF := hQ.out.1
      rw [List.drop_eq_nil_of_le (by rw [hm.out]; exact Nat.le_refl _)] at hsF
      have hB := Lib.hid hQ.out.2
      clear hQ h hR hst
      cases a <;> cases u <;> (simp [signF] at hsF; subst hsF; go_wp2_with (fail); go_returns; exact ⟨rfl, hB.out⟩)
end Go.Proofs.YtndgcndmkfjdgaaDoor
