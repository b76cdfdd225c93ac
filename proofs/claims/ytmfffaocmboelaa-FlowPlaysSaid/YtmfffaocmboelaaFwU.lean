import Derived.Test.YtmfffaocmboelaaFwT
namespace Go.Proofs.Ytmfffaocmboelaa
open Go.RowKit
set_option linter.unusedVariables false
set_option linter.unusedSimpArgs false
/-! shown; FlowKnown -/
set_option maxHeartbeats 2000000 in
set_option maxRecDepth 100000 in
theorem shown_any (w : World) : Calls Try.prog 7 #[] w fun e w' => e = .returned (.bool true) ∧ Below w.heap.size w w' := by
  have hlen : ∀ n, n ≤ 10 → (n : Nat) ≤ maxLen := fun n h => Nat.le_trans h (by decide)
  go_enter Try.func7, Try.ntmps7
  go_wp2_with (fail)
  refine (new_any w).mono ?_
  rintro e w1 ⟨rfl, hw1⟩
  have hF1 := fw_new w
  rw [← hw1] at hF1
  obtain ⟨F, hF⟩ : ∃ F, w.heap.size = F := ⟨_, rfl⟩
  have hB1 : Below F w w1 := by rw [hw1, ← hF]; exact (Below.refl _ _).alloc (Nat.le_refl _) _
  rw [hF] at hF1 ⊢
  clear hw1
  replace hF := Lib.hid hF
  replace hF1 := Lib.hid hF1
  replace hB1 := Lib.hid hB1
  replace hlen := Lib.hid hlen
  go_wp2_with (fail)
  refine (word_fw hF1.out ⟨#[105, 102]⟩ 8 (hlen.out 2 (by decide)) (by decide) _ st_1).mono ?_
  rintro e w2 ⟨va, v2, X2, rfl, hA, hF2, hO2, _⟩
  have hB2 := Lib.hid (hB1.out.trans (hF1.out.below hO2))
  replace hA := Lib.hid hA
  replace hF2 := Lib.hid hF2
  clear hO2 hB1 hF1
  go_wp2_with (fail)
  refine (word_fw hF2.out ⟨#[101, 108, 115, 101]⟩ 16 (hlen.out 4 (by decide)) (by decide) _ st_2).mono ?_
  rintro e w3 ⟨vb, v3, X3, rfl, hC, hF3, hO3, _⟩
  have hB3 := Lib.hid (hB2.out.trans (hF2.out.below hO3))
  replace hA := Lib.hid (hF2.out.acts hA.out hO3)
  replace hC := Lib.hid hC
  replace hF3 := Lib.hid hF3
  clear hO3 hB2 hF2
  go_wp2_with (fail)
  refine (word_fw hF3.out ⟨#[116, 104, 101, 110]⟩ 40 (hlen.out 4 (by decide)) (by decide) _ st_3).mono ?_
  rintro e w4 ⟨vc, v4, X4, rfl, hD, hF4, hO4, _⟩
  have hB4 := Lib.hid (hB3.out.trans (hF3.out.below hO4))
  replace hA := Lib.hid (hF3.out.acts hA.out hO4)
  replace hC := Lib.hid (hF3.out.acts hC.out hO4)
  replace hD := Lib.hid hD
  replace hF4 := Lib.hid hF4
  clear hO4 hB3 hF3
  have hz4 : F ≤ w4.heap.size := by have := hF4.out.fl.bk.lt; omega
  replace hz4 := Lib.hid hz4
  go_wp2_with (fail)
  have n1 : Below w4.heap.size w4 (w4.alloc (.cells #[.bool false, .int .i64 8, .int .i64 5, .int .i64 0] 54)) := (Below.refl _ _).alloc (Nat.le_refl _) _
  refine (sameActs_yes (l := [⟨false, 8, 5, 0⟩]) (lies_kept hA.out n1) (lies_lit w4 54 _ 1 1 rfl _ rfl) (by simp)).mono ?_
  rintro e w5 ⟨rfl, m5, hw5⟩
  have n2 : Below w4.heap.size w4 w5 := by rw [hw5]; exact below_drewN n1 _
  replace hC := Lib.hid (own_below hC.out n2 (Nat.le_refl _))
  replace hD := Lib.hid (own_below hD.out n2 (Nat.le_refl _))
  replace hF4 := Lib.hid (hF4.out.kept n2)
  replace hB4 := Lib.hid (hB4.out.trans (n2.mono hz4.out))
  replace hz4 := Lib.hid (Nat.le_trans hz4.out n2.size)
  clear hw5 n1 n2 hA
  go_wp2_with (fail)
  have n1 : Below w5.heap.size w5 (w5.alloc (.cells #[.bool false, .int .i64 16, .int .i64 4, .int .i64 0, .bool true, .int .i64 8, .int .i64 0, .int .i64 24] 54)) := (Below.refl _ _).alloc (Nat.le_refl _) _
  refine (sameActs_yes (l := [⟨false, 16, 4, 0⟩, ⟨true, 8, 0, 24⟩]) (lies_kept hC.out n1) (lies_lit w5 54 _ 2 2 rfl _ rfl) (by simp)).mono ?_
  rintro e w6 ⟨rfl, m6, hw6⟩
  have n2 : Below w5.heap.size w5 w6 := by rw [hw6]; exact below_drewN n1 _
  replace hD := Lib.hid (own_below hD.out n2 (Nat.le_refl _))
  replace hF4 := Lib.hid (hF4.out.kept n2)
  replace hB4 := Lib.hid (hB4.out.trans (n2.mono hz4.out))
  replace hz4 := Lib.hid (Nat.le_trans hz4.out n2.size)
  clear hw6 n1 n2 hC
  go_wp2_with (fail)
  have n1 : Below w6.heap.size w6 (w6.alloc (.cells #[.bool true, .int .i64 16, .int .i64 0, .int .i64 40] 54)) := (Below.refl _ _).alloc (Nat.le_refl _) _
  refine (sameActs_yes (l := [⟨true, 16, 0, 40⟩]) (lies_kept hD.out n1) (lies_lit w6 54 _ 1 1 rfl _ rfl) (by simp)).mono ?_
  rintro e w7 ⟨rfl, m7, hw7⟩
  have n2 : Below w6.heap.size w6 w7 := by rw [hw7]; exact below_drewN n1 _
  replace hF4 := Lib.hid (hF4.out.kept n2)
  replace hB4 := Lib.hid (hB4.out.trans (n2.mono hz4.out))
  replace hz4 := Lib.hid (Nat.le_trans hz4.out n2.size)
  clear hw7 n1 n2 hD
  go_wp2_with (fail)
  refine (word_fw hF4.out ⟨#[116, 104, 101, 110]⟩ 40 (hlen.out 4 (by decide)) (by decide) _ st_4).mono ?_
  rintro e w8 ⟨vd, v8, X8, rfl, hE, hF8, hO8, _⟩
  have hB8 := Lib.hid (hB4.out.trans (hF4.out.below hO8))
  clear hO8 hB4 hF4 hE hF8
  go_wp2_with (fail)
  go_returns
  exact ⟨rfl, by rw [hF.out]; exact hB8.out⟩
theorem step_f (L : List Th) (r : Nat) (here : Int) (hr : r ≤ 17) : ((Go.Proofs.Ytmfffaocmboelaa.step L r here).f = 8) ↔ r = 17 := by
  constructor
  · intro h
    unfold Go.Proofs.Ytmfffaocmboelaa.step at h
    split at h
    · omega
    · exfalso
      split at h
      · simp at h
      · split at h <;> first | (simp at h; done) | skip
        split at h <;> simp at h
  · rintro rfl
    rfl
set_option maxHeartbeats 2000000 in
set_option maxRecDepth 100000 in
theorem walk_known (s : ByteArray) (w : World) (hs : s.size ≤ maxLen) : Calls Try.prog 3 #[.string s] w fun e w' => e = .returned (.bool true) ∧ Below w.heap.size w w' := by
  have hsf := step_f [] (row s) 0 (row_le s)
  obtain ⟨st, hst⟩ : ∃ st, Go.Proofs.Ytmfffaocmboelaa.step [] (row s) 0 = st := ⟨_, rfl⟩
  rw [hst] at hsf
  obtain ⟨f, hf⟩ : ∃ f, st.f = f := ⟨_, rfl⟩
  rw [hf] at hsf
  have hK := Known_any s hs
  have hR := rrow_any s
  have hle := row_le s
  obtain ⟨r, hr⟩ : ∃ r, row s = r := ⟨_, rfl⟩
  rw [hr] at hsf hK hR hle hst
  obtain ⟨kb, hkb⟩ : ∃ kb : Bool, (!decide (r = 17)) = kb := ⟨_, rfl⟩
  have e1 : (f != 8) = kb := by
    rw [← hkb]
    by_cases h : r = 17
    · rw [decide_eq_true h, hsf.2 h]; rfl
    · have : ¬ f = 8 := fun e => h (hsf.1 e)
      rw [decide_eq_false h]; simpa using this
  obtain ⟨rr, hrr⟩ : ∃ rr : Int, (if r = 17 then -1 else (r : Int)) = rr := ⟨_, rfl⟩
  have e2 : decide (0 ≤ rr) = kb := by
    rw [← hkb, ← hrr]
    by_cases h : r = 17
    · rw [if_pos h, decide_eq_true h]; rfl
    · rw [if_neg h, decide_eq_false h]; simp
  have e3 : (kb == kb) = true := by simp
  simp only [hkb] at hK
  simp only [hrr] at hR
  replace hK := Lib.hid hK
  replace hR := Lib.hid hR
  replace hst := Lib.hid hst
  replace hf := Lib.hid hf
  replace hr := Lib.hid hr
  clear hsf hle hkb hrr
  go_enter Try.func3, Try.ntmps3
  go_wp2_with (fail)
  refine (shown_any w).mono ?_
  rintro e w0 ⟨rfl, hb0⟩
  have hz0 := hb0.size
  replace hb0 := Lib.hid hb0
  replace hz0 := Lib.hid hz0
  go_wp2_with (fail)
  refine (new_any w0).mono ?_
  rintro e w1 ⟨rfl, hw1⟩
  have hF1 := fw_new w0
  rw [← hw1] at hF1
  have hB1 : Below w0.heap.size w0 w1 := by rw [hw1]; exact (Below.refl _ _).alloc (Nat.le_refl _) _
  obtain ⟨F, hF⟩ : ∃ F, w0.heap.size = F := ⟨_, rfl⟩
  rw [hF] at hF1 hB1
  rw [hF]
  clear hw1
  replace hF := Lib.hid hF
  replace hF1 := Lib.hid hF1
  replace hB1 := Lib.hid hB1
  go_wp2_with (fail)
  refine (word_fw hF1.out s 0 hs (by decide) st (by rw [hr.out]; exact hst.out)).mono ?_
  rintro e w2 ⟨va, v2, X2, rfl, hA, hF2, hO2, _⟩
  have hB2 := Lib.hid (hB1.out.trans (hF1.out.below hO2))
  have hz2 : F ≤ w2.heap.size := by have := hF2.fl.bk.lt; omega
  rw [hf.out]
  replace hz2 := Lib.hid hz2
  clear hO2 hB1 hF1 hA hF2
  go_wp2_with (fail)
  refine (hK.out w2).mono ?_
  rintro e w3 ⟨rfl, hb3⟩
  replace hb3 := Lib.hid hb3
  go_wp2_with (fail)
  refine (hK.out w3).mono ?_
  rintro e w4 ⟨rfl, hb4⟩
  replace hb4 := Lib.hid hb4
  go_wp2_with (fail)
  refine (hR.out w4 hs).mono ?_
  rintro e w5 ⟨rfl, hb5⟩
  replace hb5 := Lib.hid hb5
  go_wp2_with (fail)
  go_returns
  have hb6 := (hb3.out.trans (hb4.out.mono hb3.out.size)).trans (hb5.out.mono (Nat.le_trans hb3.out.size hb4.out.size))
  have hb7 : Below F w0 w5 := hB2.out.trans (hb6.mono hz2.out)
  exact ⟨rfl, hb0.out.trans (hb7.mono (by rw [← hF.out]; exact hz0.out))⟩
theorem walk_knows (s : ByteArray) (w : World) (hs : s.size ≤ 140737488351232) : Calls Try.prog 3 #[.string s] w fun e w' => e = .returned (.bool true) ∧ Below w.heap.size w w' := walk_known s w (Nat.le_trans hs (by decide))
end Go.Proofs.Ytmfffaocmboelaa
