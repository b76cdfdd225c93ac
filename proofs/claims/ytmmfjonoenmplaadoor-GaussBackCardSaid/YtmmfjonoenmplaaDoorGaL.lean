import Derived.Test.YtmmfjonoenmplaaDoorGaK
namespace Go.Proofs.YtmmfjonoenmplaaDoor
open Go.RowKit Go.Extern.Stop Go.Stop Go.Extern
set_option linter.unusedVariables false
set_option linter.unusedSimpArgs false
/-! the walk of GaussRights -/
theorem res_cases (a : Int × Int) : (rangedV a = 0 ∧ res a = .tuple #[cw a, .int .i64 0]) ∨ (rangedV a = 8 ∧ res a = .tuple #[.complex .f64 0 0, .int .i64 8]) := by
  unfold rangedV res toldV
  split
  · exact .inl ⟨rfl, rfl⟩
  · exact .inr ⟨rfl, rfl⟩
set_option maxRecDepth 100000 in
theorem of_all (a : Int × Int) (w : World) : Calls Tryd.prog 29 #[.int .i64 a.1, .int .i64 a.2] w fun e w' => e = .returned (res a) ∧ w' = w := by
  obtain ⟨a1, a2⟩ := a
  simp only
  unfold res toldV
  by_cases hin : a1.natAbs ≤ 16777216 ∧ a2.natAbs ≤ 16777216
  · rw [if_pos hin]
    have v1 := fun w => toFloat_run a1 (by omega) w
    have v2 := fun w => toFloat_run a2 (by omega) w
    have m1 : a1 ≤ 16777216 := by omega
    have m2 : a2 ≤ 16777216 := by omega
    have m3 : -16777216 ≤ a1 := by omega
    have m4 : -16777216 ≤ a2 := by omega
    clear hin
    go_enter Tryd.func29, Tryd.ntmps29
    go_wp2_with (fail)
    all_goals (go_returns; exact ⟨rfl, rfl⟩)
  · rw [if_neg hin]
    rcases (by omega : 16777216 < a1 ∨ a1 ≤ 16777216 ∧ 16777216 < a2 ∨ a1 ≤ 16777216 ∧ a2 ≤ 16777216 ∧ a1 < -16777216 ∨ a1 ≤ 16777216 ∧ a2 ≤ 16777216 ∧ -16777216 ≤ a1 ∧ a2 < -16777216) with m1 | ⟨m1, m2⟩ | ⟨m1, m2, m3⟩ | ⟨m1, m2, m3, m4⟩
    all_goals (
      clear hin
      go_enter Tryd.func29, Tryd.ntmps29
      go_wp2_with (fail)
      all_goals (try omega)
      all_goals (go_returns; exact ⟨rfl, rfl⟩))
set_option maxRecDepth 100000 in
set_option maxHeartbeats 4000000 in
theorem walk_rights (x y : Nat) (a b : Int) (w : World) (hT : Tab w) (hx : x < 18446744073709551616) (hy : y < 18446744073709551616) (ha : -9223372036854775808 ≤ a ∧ a ≤ 9223372036854775807) (hb : -9223372036854775808 ≤ b ∧ b ≤ 9223372036854775807) :
    Calls Tryd.prog 5 #[.float .f64 x, .float .f64 y, .int .i64 a, .int .i64 b] w fun e w' => e = .returned (.bool true) ∧ Below w.heap.size w w' := by
  have hsh := Lib.hid (shown_any w hT)
  have hof := Lib.hid (fun w => rof_any (x, y) ⟨hx, hy⟩ w)
  have hra := Lib.hid (fun w => ranged_any (a, b) w)
  have hfl := Lib.hid (fun w => of_all (a, b) w)
  have hri := Lib.hid (fun w => right_any x y hx hy w)
  have hpo := Lib.hid (fun c h1 h2 w => parts_ok (x, y) c h1 h2 w)
  have hpb := Lib.hid (fun h w => parts_bad (x, y) ⟨hx, hy⟩ h w)
  clear hx hy hT
  go_enter Tryd.func5, Tryd.ntmps5
  go_wp2_with (fail)
  refine hsh.out.mono ?_
  rintro e w1 ⟨rfl, hb1⟩
  have hB := Lib.hid hb1
  clear hb1
  go_wp2_with (fail)
  refine (hof.out _).mono ?_
  rintro e w2 ⟨z, ok, rfl, hz, hb2⟩
  replace hB := Lib.hid (hB.out.trans (hb2.mono hB.out.size))
  clear hb2
  obtain ⟨z1, z2⟩ := z
  unfold zV
  replace hz := Lib.hid hz
  have hK := Bk.fresh w2 25 #[.int .i64 z1, .int .i64 z2]
  have hB3 := hB.out.alloc hB.out.size (.cells #[.int .i64 z1, .int .i64 z2] 25)
  by_cases hR : Rt x ∧ Rt y
  · obtain ⟨c, hc1, hc2⟩ := rt_nm (x := (x, y)) hR
    obtain rfl : ok = true := hz.out.2.1.2 hR
    obtain rfl : (z1, z2) = c := hz.out.2.2 c hc1 hc2
    have hpo2 := Lib.hid (hpo.out _ hc1 hc2)
    replace hR := Lib.hid hR
    clear hc1 hc2 hpo hpb hz
    go_wp2_with (fail)
    obtain ⟨g, hg⟩ : ∃ g, w2.heap.size = g := ⟨_, rfl⟩
    rw [hg] at hK ⊢
    obtain ⟨X, hX⟩ : ∃ X, w2.alloc (.cells #[.int .i64 z1, .int .i64 z2] 25) = X := ⟨_, rfl⟩
    rw [hX] at hK hB3 ⊢
    have k0 := hK.cell 0
    have k1 := hK.cell 1
    simp at k0 k1
    replace hB := Lib.hid hB3
    clear hB3 hX hg hK
    refine (hpo2.out _).mono ?_
    rintro e w3 ⟨rfl, n3, hn_⟩
    have hn_ := hn_.symm
    subst hn_
    go_wp2_with (fail)
    refine (hri.out _).mono ?_
    rintro e w3 ⟨r, rfl, hr, n4, hn_⟩
    have hn_ := hn_.symm
    subst hn_
    obtain rfl : r = true := hr.2 hR.out
    clear hr
    go_wp2_with (fail)
    refine (hfl.out _).mono ?_
    rintro e w5 ⟨rfl, hw_⟩
    have hw_ := hw_.symm
    subst hw_
    have hB := Lib.hid (hB.out.trans ⟨rfl, rfl, rfl, Nat.le_refl _, fun _ _ => rfl⟩ : Below w.heap.size w (X.drewN (n3 + n4)))
    rcases res_cases (a, b) with ⟨hr1, hr2⟩ | ⟨hr1, hr2⟩
    · rw [hr2]
      rw [hr1] at hra
      have his := Lib.hid (fun w h => is_ok (a, b) h w)
      have hsm : Sm (a, b) 1125899906842624 := by
        unfold rangedV at hr1
        unfold Sm
        split at hr1
        · simp only at *; omega
        · omega
      clear hr1 hr2
      unfold cw zV at his
      unfold zV at hra
      unfold cw
      simp only at his hra
      go_wp2_with (fail)
      refine (hra.out _).mono ?_
      rintro e w6 ⟨rfl, hb6⟩
      replace hB := Lib.hid (hB.out.trans (hb6.mono hB.out.size))
      clear hb6
      go_wp2_with (fail)
      refine (his.out _ hsm).mono ?_
      rintro e w7 ⟨rfl, hb7⟩
      replace hB := Lib.hid (hB.out.trans (hb7.mono hB.out.size))
      clear hb7
      go_wp2_with (fail)
      go_returns
      exact ⟨rfl, hB.out⟩
    · rw [hr2]
      rw [hr1] at hra
      have his := Lib.hid (fun w => is_ok (0, 0) (by unfold Sm; decide) w)
      clear hr1 hr2
      unfold cw zV at his
      unfold zV at hra
      simp only [fi_zero] at his hra
      go_wp2_with (fail)
      refine (hra.out _).mono ?_
      rintro e w6 ⟨rfl, hb6⟩
      replace hB := Lib.hid (hB.out.trans (hb6.mono hB.out.size))
      clear hb6
      go_wp2_with (fail)
      refine (his.out _).mono ?_
      rintro e w7 ⟨rfl, hb7⟩
      replace hB := Lib.hid (hB.out.trans (hb7.mono hB.out.size))
      clear hb7
      go_wp2_with (fail)
      go_returns
      exact ⟨rfl, hB.out⟩
  · obtain rfl : ok = false := by
      cases ok
      · rfl
      · exact absurd (hz.out.2.1.1 rfl) hR
    have hpb2 := Lib.hid (hpb.out hR)
    replace hR := Lib.hid hR
    clear hpo hpb hz
    go_wp2_with (fail)
    obtain ⟨g, hg⟩ : ∃ g, w2.heap.size = g := ⟨_, rfl⟩
    rw [hg] at hK ⊢
    obtain ⟨X, hX⟩ : ∃ X, w2.alloc (.cells #[.int .i64 z1, .int .i64 z2] 25) = X := ⟨_, rfl⟩
    rw [hX] at hK hB3 ⊢
    have k0 := hK.cell 0
    have k1 := hK.cell 1
    simp at k0 k1
    replace hB := Lib.hid hB3
    clear hB3 hX hg hK
    refine (hpb2.out _).mono ?_
    rintro e w3 ⟨rfl, n3, hn_⟩
    have hn_ := hn_.symm
    subst hn_
    go_wp2_with (fail)
    refine (hri.out _).mono ?_
    rintro e w3 ⟨r, rfl, hr, n4, hn_⟩
    have hn_ := hn_.symm
    subst hn_
    obtain rfl : r = false := by
      cases r
      · rfl
      · exact absurd (hr.1 rfl) hR.out
    clear hr
    go_wp2_with (fail)
    refine (hfl.out _).mono ?_
    rintro e w5 ⟨rfl, hw_⟩
    have hw_ := hw_.symm
    subst hw_
    have hB := Lib.hid (hB.out.trans ⟨rfl, rfl, rfl, Nat.le_refl _, fun _ _ => rfl⟩ : Below w.heap.size w (X.drewN (n3 + n4)))
    rcases res_cases (a, b) with ⟨hr1, hr2⟩ | ⟨hr1, hr2⟩
    · rw [hr2]
      rw [hr1] at hra
      have his := Lib.hid (fun w h => is_ok (a, b) h w)
      have hsm : Sm (a, b) 1125899906842624 := by
        unfold rangedV at hr1
        unfold Sm
        split at hr1
        · simp only at *; omega
        · omega
      clear hr1 hr2
      unfold cw zV at his
      unfold zV at hra
      unfold cw
      simp only at his hra
      go_wp2_with (fail)
      refine (hra.out _).mono ?_
      rintro e w6 ⟨rfl, hb6⟩
      replace hB := Lib.hid (hB.out.trans (hb6.mono hB.out.size))
      clear hb6
      go_wp2_with (fail)
      refine (his.out _ hsm).mono ?_
      rintro e w7 ⟨rfl, hb7⟩
      replace hB := Lib.hid (hB.out.trans (hb7.mono hB.out.size))
      clear hb7
      go_wp2_with (fail)
      go_returns
      exact ⟨rfl, hB.out⟩
    · rw [hr2]
      rw [hr1] at hra
      have his := Lib.hid (fun w => is_ok (0, 0) (by unfold Sm; decide) w)
      clear hr1 hr2
      unfold cw zV at his
      unfold zV at hra
      simp only [fi_zero] at his hra
      go_wp2_with (fail)
      refine (hra.out _).mono ?_
      rintro e w6 ⟨rfl, hb6⟩
      replace hB := Lib.hid (hB.out.trans (hb6.mono hB.out.size))
      clear hb6
      go_wp2_with (fail)
      refine (his.out _).mono ?_
      rintro e w7 ⟨rfl, hb7⟩
      replace hB := Lib.hid (hB.out.trans (hb7.mono hB.out.size))
      clear hb7
      go_wp2_with (fail)
      go_returns
      exact ⟨rfl, hB.out⟩
end Go.Proofs.YtmmfjonoenmplaaDoor
