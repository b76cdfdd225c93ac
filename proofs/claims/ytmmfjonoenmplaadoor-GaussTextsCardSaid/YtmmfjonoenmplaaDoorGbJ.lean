import Derived.Test.YtmmfjonoenmplaaDoorGbI
import Derived.Test.YtmmfjonoenmplaaDoorGaM
namespace Go.Proofs.YtmmfjonoenmplaaDoor
open Go.RowKit Go.Extern.Stop Go.Stop Go.Extern
set_option linter.unusedVariables false
set_option linter.unusedSimpArgs false
/-! GaussTexts -/
set_option maxRecDepth 100000 in
theorem print_bad (x : Nat × Nat) (lx : x.1 < 18446744073709551616 ∧ x.2 < 18446744073709551616) (hno : ¬ (Rt x.1 ∧ Rt x.2)) (w : World) : Calls Tryd.prog 42 #[.complex .f64 x.1 x.2] w fun e w' => e = .returned (.tuple #[.string ⟨#[]⟩, .int .i64 1]) ∧ Below w.heap.size w w' := by
  have hp := Lib.hid (fun w => parts_bad x lx hno w)
  obtain ⟨x1, x2⟩ := x
  clear lx hno
  go_enter Tryd.func42, Tryd.ntmps42
  go_wp2_with (fail)
  refine (hp.out _).mono ?_
  rintro e w1 ⟨rfl, n, hn_⟩
  have hB := Lib.hid (by rw [hn_]; exact ⟨rfl, rfl, rfl, Nat.le_refl _, fun _ _ => rfl⟩ : Below w.heap.size w w1)
  clear hn_
  go_wp2_with (fail)
  go_returns
  exact ⟨rfl, hB.out⟩
/-- what both say of a text, and that it is held to be the same -/
theorem parse_pair (P : Option (Int × Int)) : ∃ (vc : Value) (k : Int) (z1 z2 : Int), paV P = .tuple #[vc, .int .i64 k] ∧ pbV P = .tuple #[.agg #[.int .i64 z1, .int .i64 z2], .int .i64 k] ∧
    ∀ w, Calls Tryd.prog 17 #[vc, .int .i64 k, .agg #[.int .i64 z1, .int .i64 z2], .int .i64 k] w fun e w' => e = .returned (.bool true) ∧ Below w.heap.size w w' := by
  cases P with
  | none => exact ⟨_, _, _, _, rfl, rfl, fun w => answers_err (0, 0) 4 (by decide) w⟩
  | some a =>
    by_cases h : a.1.natAbs ≤ 16777216 ∧ a.2.natAbs ≤ 16777216
    · refine ⟨cw a, 0, a.1, a.2, ?_, ?_, fun w => answers_ok a (by unfold Sm; omega) w⟩
      · show res a = _
        unfold res toldV
        rw [if_pos h]
        rfl
      · unfold pbV
        simp only
        rw [if_pos h]
        rfl
    · refine ⟨.complex .f64 0 0, 8, 0, 0, ?_, ?_, fun w => answers_err (0, 0) 8 (by decide) w⟩
      · show res a = _
        unfold res toldV
        rw [if_neg h]
      · unfold pbV
        simp only
        rw [if_neg h]
        rfl
set_option maxRecDepth 100000 in
set_option maxHeartbeats 4000000 in
theorem walk_texts (x y : Nat) (s : ByteArray) (w : World) (hMq : Mq w) (lx : x < 18446744073709551616) (ly : y < 18446744073709551616) (hsz : s.size ≤ maxLen) (hsz2 : s.data.toList.length ≤ reachBytes) :
    Calls Tryd.prog 11 #[.float .f64 x, .float .f64 y, .string s] w fun e w' => e = .returned (.bool true) ∧ Below w.heap.size w w' := by
  have hs : s.size ≤ 281474976710656 := by rw [data_size] at hsz2; exact Nat.le_trans hsz2 (by decide)
  have hsh := Lib.hid (shown_any w hMq.tab)
  have hof := Lib.hid (fun w => rof_any (x, y) ⟨lx, ly⟩ w)
  have hM := Lib.hid (fun W (hb : Below w.heap.size w W) => hMq.bel hb)
  have hpa := Lib.hid (fun W (hm : Mq W) => gparse_any s hs W hm)
  have hpb := Lib.hid (fun W => rparse_any s hs W)
  have hbad := Lib.hid (fun (h : ¬ (Rt x ∧ Rt y)) W => print_bad (x, y) ⟨lx, ly⟩ h W)
  obtain ⟨vc, k, z1, z2, hP1, hP2, hans⟩ := parse_pair (parseZ s.data.toList)
  replace hP1 := Lib.hid hP1
  replace hP2 := Lib.hid hP2
  replace hans := Lib.hid hans
  clear hMq lx ly hsz hsz2 hs
  go_enter Tryd.func11, Tryd.ntmps11
  go_wp2_with (fail)
  refine hsh.out.mono ?_
  rintro e w1 ⟨rfl, hb_⟩
  have hZ : Hid (Zs w w1 []) := Lib.hid ⟨hb_, fun x hx => by cases hx⟩
  clear hb_ hsh
  go_wp2_with (fail)
  refine (hof.out _).mono ?_
  rintro e w2 ⟨⟨a1, a2⟩, ok, rfl, hz, hb_⟩
  replace hZ := Lib.hid ((hZ.out.bel hb_).made a1 a2)
  clear hb_ hof
  unfold zV
  by_cases hR : Rt x ∧ Rt y
  · obtain ⟨c, hc1, hc2⟩ := rt_nm (x := (x, y)) hR
    obtain rfl : ok = true := hz.2.1.2 hR
    obtain rfl : (a1, a2) = c := hz.2.2 c hc1 hc2
    have hpr := fun W (hT : Tab W) => print_ok (x, y) (a1, a2) hc1 hc2 W hT
    have hrp := fun W => rprint_any (a1, a2) hc2 W
    obtain ⟨S, hS⟩ : ∃ S : ByteArray, ⟨(printL (a1, a2)).toArray⟩ = S := ⟨_, rfl⟩
    simp only [hS] at hpr hrp
    unfold zV at hrp
    simp only at hrp
    replace hpr := Lib.hid hpr
    replace hrp := Lib.hid hrp
    have gS : (S.toList != S.toList) = false := by simp
    clear hR hc1 hc2 hz hbad hS
    go_wp2_with (fail)
    obtain ⟨g1, hg1⟩ : ∃ g, w2.heap.size = g := ⟨_, rfl⟩
    obtain ⟨X, hX⟩ : ∃ X, w2.alloc (.cells #[.int .i64 a1, .int .i64 a2] 25) = X := ⟨_, rfl⟩
    rw [hg1, hX] at hZ
    rw [hX]
    try rw [hg1]
    clear hX hg1
    refine (hpr.out _ (hM.out _ hZ.out.1).tab).mono ?_
    rintro e w3 ⟨rfl, hb_⟩
    replace hZ := Lib.hid (hZ.out.bel hb_)
    clear hb_
    have c0 := hZ.out.c0 (g := g1) (a := a1) (b := a2) (by simp)
    have c1 := hZ.out.c1 (g := g1) (a := a1) (b := a2) (by simp)
    go_wp2_with (fail)
    refine (hrp.out _).mono ?_
    rintro e w4 ⟨rfl, hb_⟩
    replace hZ := Lib.hid (hZ.out.bel hb_)
    clear hb_
    clear c0 c1
    go_wp2_with (fail)
    refine (hpa.out _ (hM.out _ hZ.out.1)).mono ?_
    rintro e w5 ⟨rfl, hb_⟩
    replace hZ := Lib.hid (hZ.out.bel hb_)
    clear hb_
    rw [hP1.out]
    go_wp2_with (fail)
    refine (hpb.out _).mono ?_
    rintro e w6 ⟨rfl, hb_⟩
    replace hZ := Lib.hid (hZ.out.bel hb_)
    clear hb_
    rw [hP2.out]
    replace hZ := Lib.hid (hZ.out.made z1 z2)
    go_wp2_with (fail)
    obtain ⟨g2, hg2⟩ : ∃ g, w6.heap.size = g := ⟨_, rfl⟩
    obtain ⟨Y, hY⟩ : ∃ X, w6.alloc (.cells #[.int .i64 z1, .int .i64 z2] 25) = X := ⟨_, rfl⟩
    rw [hg2, hY] at hZ
    rw [hY]
    try rw [hg2]
    clear hY hg2
    have k0 := hZ.out.c0 (g := g2) (a := z1) (b := z2) (by simp)
    have k1 := hZ.out.c1 (g := g2) (a := z1) (b := z2) (by simp)
    go_wp2_with (fail)
    refine (hans.out _).mono ?_
    rintro e w7 ⟨rfl, hb_⟩
    replace hZ := Lib.hid (hZ.out.bel hb_)
    clear hb_
    go_wp2_with (fail)
    go_returns
    exact ⟨rfl, hZ.out.1⟩
  · obtain rfl : ok = false := by
      cases ok
      · rfl
      · exact absurd (hz.2.1.1 rfl) hR
    have hpr := Lib.hid (hbad.out hR)
    clear hR hz hbad
    go_wp2_with (fail)
    obtain ⟨g1, hg1⟩ : ∃ g, w2.heap.size = g := ⟨_, rfl⟩
    obtain ⟨X, hX⟩ : ∃ X, w2.alloc (.cells #[.int .i64 a1, .int .i64 a2] 25) = X := ⟨_, rfl⟩
    rw [hg1, hX] at hZ
    rw [hX]
    try rw [hg1]
    clear hX hg1
    refine (hpr.out _).mono ?_
    rintro e w3 ⟨rfl, hb_⟩
    replace hZ := Lib.hid (hZ.out.bel hb_)
    clear hb_
    go_wp2_with (fail)
    refine (hpa.out _ (hM.out _ hZ.out.1)).mono ?_
    rintro e w5 ⟨rfl, hb_⟩
    replace hZ := Lib.hid (hZ.out.bel hb_)
    clear hb_
    rw [hP1.out]
    go_wp2_with (fail)
    refine (hpb.out _).mono ?_
    rintro e w6 ⟨rfl, hb_⟩
    replace hZ := Lib.hid (hZ.out.bel hb_)
    clear hb_
    rw [hP2.out]
    replace hZ := Lib.hid (hZ.out.made z1 z2)
    go_wp2_with (fail)
    obtain ⟨g2, hg2⟩ : ∃ g, w6.heap.size = g := ⟨_, rfl⟩
    obtain ⟨Y, hY⟩ : ∃ X, w6.alloc (.cells #[.int .i64 z1, .int .i64 z2] 25) = X := ⟨_, rfl⟩
    rw [hg2, hY] at hZ
    rw [hY]
    try rw [hg2]
    clear hY hg2
    have k0 := hZ.out.c0 (g := g2) (a := z1) (b := z2) (by simp)
    have k1 := hZ.out.c1 (g := g2) (a := z1) (b := z2) (by simp)
    go_wp2_with (fail)
    refine (hans.out _).mono ?_
    rintro e w7 ⟨rfl, hb_⟩
    replace hZ := Lib.hid (hZ.out.bel hb_)
    clear hb_
    go_wp2_with (fail)
    go_returns
    exact ⟨rfl, hZ.out.1⟩
end Go.Proofs.YtmmfjonoenmplaaDoor
