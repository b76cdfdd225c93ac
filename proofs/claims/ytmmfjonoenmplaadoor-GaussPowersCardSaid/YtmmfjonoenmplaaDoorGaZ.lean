import Derived.Test.YtmmfjonoenmplaaDoorGaX
import Derived.Test.YtmmfjonoenmplaaDoorGaY
namespace Go.Proofs.YtmmfjonoenmplaaDoor
open Go.RowKit Go.Extern.Stop Go.Stop Go.Extern
set_option linter.unusedVariables false
set_option linter.unusedSimpArgs false
/-! the walk of GaussPowers -/
theorem powV_form (k : Nat) (a : Int × Int) : ∃ (v : Value) (want : Int), powV (powF k (1, 0) a) = .tuple #[v, .int .i64 want] ∧ ∀ p ok, PowR k a p ok → want = (if ok then 0 else 8) ∧ A1 17 #[v, .int .i64 want, zV p, .int .i64 want] (.bool true) := by
  cases hp : powF k (1, 0) a with
  | none =>
    refine ⟨.complex .f64 0 0, 8, rfl, fun p ok h => ?_⟩
    rcases h with ⟨h, _⟩ | ⟨_, rfl, rfl⟩
    · rw [hp] at h; cases h
    · exact ⟨rfl, fun w => answers_err (0, 0) 8 (by decide) w⟩
  | some q =>
    by_cases hin : q.1.natAbs ≤ 16777216 ∧ q.2.natAbs ≤ 16777216
    · have hs : Sm q 16777216 := by unfold Sm; omega
      refine ⟨cw q, 0, res_small q hs, fun p ok h => ?_⟩
      rcases h with ⟨h, h2⟩ | ⟨h, _⟩
      · rw [hp] at h
        obtain rfl : q = p := by injection h
        rw [decide_eq_true hin] at h2
        subst h2
        exact ⟨rfl, fun w => answers_ok q (sm_mono hs (by decide)) w⟩
      · rw [hp] at h; cases h
    · refine ⟨.complex .f64 0 0, 8, by show res q = _; unfold res toldV; rw [if_neg hin], fun p ok h => ?_⟩
      rcases h with ⟨h, h2⟩ | ⟨h, _⟩
      · rw [hp] at h
        obtain rfl : q = p := by injection h
        rw [decide_eq_false hin] at h2
        subst h2
        exact ⟨rfl, fun w => answers_err q 8 (by decide) w⟩
      · rw [hp] at h; cases h
set_option maxRecDepth 100000 in
set_option maxHeartbeats 8000000 in
theorem walk_powers (x y : Nat) (n : Int) (w : World) (hT : Tab w) (hx : x < 18446744073709551616) (hy : y < 18446744073709551616) (hn : -9223372036854775808 ≤ n ∧ n ≤ 9223372036854775807) :
    Calls Tryd.prog 9 #[.float .f64 x, .float .f64 y, .int .i64 n] w fun e w' => e = .returned (.bool true) ∧ Below w.heap.size w w' := by
  have hsh := Lib.hid (shown_any w hT)
  have hof := Lib.hid (fun w => rof_any (x, y) ⟨hx, hy⟩ w)
  have hbad := Lib.hid (fun hno w => pow_arg (x, y) n ⟨hx, hy⟩ hno w)
  clear hx hy hT hn
  go_enter Tryd.func9, Tryd.ntmps9
  go_wp2_with (fail)
  refine hsh.out.mono ?_
  rintro e w1 ⟨rfl, hb_⟩
  have hZ : Hid (Zs w w1 []) := Lib.hid ⟨hb_, fun x hx => by cases hx⟩
  clear hb_ hsh
  go_wp2_with (fail)
  refine (hof.out _).mono ?_
  rintro e w2 ⟨⟨a1, a2⟩, ok, rfl, hz, hb_⟩
  replace hZ := Lib.hid ((hZ.out.bel hb_).made a1 a2)
  clear hb_ hof
  unfold zV
  replace hz := Lib.hid hz
  by_cases hG : (Rt x ∧ Rt y) ∧ 0 ≤ n ∧ n ≤ 64
  · obtain ⟨hR, n0, n64⟩ := hG
    obtain ⟨c, hc1, hc2⟩ := rt_nm (x := (x, y)) hR
    obtain rfl : ok = true := hz.out.2.1.2 hR
    obtain rfl : (a1, a2) = c := hz.out.2.2 c hc1 hc2
    obtain ⟨k, rfl⟩ : ∃ k : Nat, n = k := ⟨n.toNat, by omega⟩
    have hk : k ≤ 64 := by omega
    have n1 : ¬ (k : Int) < 0 := by omega
    have n2 : ¬ 64 < (k : Int) := by omega
    have hpo := fun w => pow_ok (x, y) (a1, a2) k hc1 hc2 hk w
    have hrp := fun w => rpow_any (a1, a2) hc2 k hk w
    obtain ⟨v, want, hv, hans⟩ := powV_form k (a1, a2)
    rw [hv] at hpo
    unfold zV at hrp
    simp only at hpo hrp
    replace hpo := Lib.hid hpo
    replace hrp := Lib.hid hrp
    replace hans := Lib.hid hans
    clear hR hc1 hc2 hz hbad hv n0 n64 hk
    go_wp2_with (fail)
    obtain ⟨g1, hg1⟩ : ∃ g, w2.heap.size = g := ⟨_, rfl⟩
    obtain ⟨X, hX⟩ : ∃ X, w2.alloc (.cells #[.int .i64 a1, .int .i64 a2] 25) = X := ⟨_, rfl⟩
    rw [hg1, hX] at hZ
    rw [hX, hg1]
    clear hX hg1
    have k0 := hZ.out.c0 (g := g1) (a := a1) (b := a2) (by simp)
    have k1 := hZ.out.c1 (g := g1) (a := a1) (b := a2) (by simp)
    refine (hpo.out _).mono ?_
    rintro e w_ ⟨rfl, hb_⟩
    replace hZ := Lib.hid (hZ.out.bel hb_)
    clear hb_ k0 k1
    have k0 := hZ.out.c0 (g := g1) (a := a1) (b := a2) (by simp)
    have k1 := hZ.out.c1 (g := g1) (a := a1) (b := a2) (by simp)
    go_wp2_with (fail)
    refine (hrp.out _).mono ?_
    rintro e w3 ⟨⟨p1, p2⟩, ok, rfl, hpr, hb_⟩
    obtain ⟨hw, hA⟩ := hans.out (p1, p2) ok hpr
    replace hZ := Lib.hid ((hZ.out.bel hb_).made p1 p2)
    clear hb_ k0 k1 hpr hans hrp hpo
    unfold A1 zV at hA
    simp only at hA
    replace hA := Lib.hid hA
    have k0 := hZ.out.c0 (g := w3.heap.size) (a := p1) (b := p2) (by simp)
    have k1 := hZ.out.c1 (g := w3.heap.size) (a := p1) (b := p2) (by simp)
    cases ok
    · obtain rfl : want = 8 := hw
      go_wp2_with (fail)
      refine (hA.out _).mono ?_
      rintro e w4 ⟨rfl, hb_⟩
      replace hZ := Lib.hid (hZ.out.bel hb_)
      clear hb_ k0 k1
      go_wp2_with (fail)
      go_returns
      exact ⟨rfl, hZ.out.1⟩
    · obtain rfl : want = 0 := hw
      go_wp2_with (fail)
      refine (hA.out _).mono ?_
      rintro e w4 ⟨rfl, hb_⟩
      replace hZ := Lib.hid (hZ.out.bel hb_)
      clear hb_ k0 k1
      go_wp2_with (fail)
      go_returns
      exact ⟨rfl, hZ.out.1⟩
  · have hpa := hbad.out hG
    have her := fun w => answers_err (a1, a2) 1 (by decide) w
    unfold bad at hpa
    unfold zV at her
    simp only at hpa her
    replace hpa := Lib.hid hpa
    replace her := Lib.hid her
    clear hbad
    cases ok
    · clear hG hz
      go_wp2_with (fail)
      obtain ⟨g1, hg1⟩ : ∃ g, w2.heap.size = g := ⟨_, rfl⟩
      obtain ⟨X, hX⟩ : ∃ X, w2.alloc (.cells #[.int .i64 a1, .int .i64 a2] 25) = X := ⟨_, rfl⟩
      rw [hg1, hX] at hZ
      rw [hX, hg1]
      clear hX hg1
      have k0 := hZ.out.c0 (g := g1) (a := a1) (b := a2) (by simp)
      have k1 := hZ.out.c1 (g := g1) (a := a1) (b := a2) (by simp)
      refine (hpa.out _).mono ?_
      rintro e w_ ⟨rfl, hb_⟩
      replace hZ := Lib.hid (hZ.out.bel hb_)
      clear hb_ k0 k1
      have k0 := hZ.out.c0 (g := g1) (a := a1) (b := a2) (by simp)
      have k1 := hZ.out.c1 (g := g1) (a := a1) (b := a2) (by simp)
      go_wp2_with (fail)
      refine (her.out _).mono ?_
      rintro e w_ ⟨rfl, hb_⟩
      replace hZ := Lib.hid (hZ.out.bel hb_)
      clear hb_ k0 k1
      have k0 := hZ.out.c0 (g := g1) (a := a1) (b := a2) (by simp)
      have k1 := hZ.out.c1 (g := g1) (a := a1) (b := a2) (by simp)
      go_wp2_with (fail)
      go_returns
      exact ⟨rfl, hZ.out.1⟩
    · have hR : Rt x ∧ Rt y := hz.out.2.1.1 rfl
      rcases (by omega : n < 0 ∨ ¬ n < 0 ∧ 64 < n ∨ 0 ≤ n ∧ n ≤ 64) with n1 | ⟨n1, n2⟩ | n1
      · clear hG hz hR
        go_wp2_with (fail)
        obtain ⟨g1, hg1⟩ : ∃ g, w2.heap.size = g := ⟨_, rfl⟩
        obtain ⟨X, hX⟩ : ∃ X, w2.alloc (.cells #[.int .i64 a1, .int .i64 a2] 25) = X := ⟨_, rfl⟩
        rw [hg1, hX] at hZ
        rw [hX, hg1]
        clear hX hg1
        have k0 := hZ.out.c0 (g := g1) (a := a1) (b := a2) (by simp)
        have k1 := hZ.out.c1 (g := g1) (a := a1) (b := a2) (by simp)
        refine (hpa.out _).mono ?_
        rintro e w_ ⟨rfl, hb_⟩
        replace hZ := Lib.hid (hZ.out.bel hb_)
        clear hb_ k0 k1
        have k0 := hZ.out.c0 (g := g1) (a := a1) (b := a2) (by simp)
        have k1 := hZ.out.c1 (g := g1) (a := a1) (b := a2) (by simp)
        go_wp2_with (fail)
        refine (her.out _).mono ?_
        rintro e w_ ⟨rfl, hb_⟩
        replace hZ := Lib.hid (hZ.out.bel hb_)
        clear hb_ k0 k1
        have k0 := hZ.out.c0 (g := g1) (a := a1) (b := a2) (by simp)
        have k1 := hZ.out.c1 (g := g1) (a := a1) (b := a2) (by simp)
        go_wp2_with (fail)
        go_returns
        exact ⟨rfl, hZ.out.1⟩
      · clear hG hz hR
        go_wp2_with (fail)
        obtain ⟨g1, hg1⟩ : ∃ g, w2.heap.size = g := ⟨_, rfl⟩
        obtain ⟨X, hX⟩ : ∃ X, w2.alloc (.cells #[.int .i64 a1, .int .i64 a2] 25) = X := ⟨_, rfl⟩
        rw [hg1, hX] at hZ
        rw [hX, hg1]
        clear hX hg1
        have k0 := hZ.out.c0 (g := g1) (a := a1) (b := a2) (by simp)
        have k1 := hZ.out.c1 (g := g1) (a := a1) (b := a2) (by simp)
        refine (hpa.out _).mono ?_
        rintro e w_ ⟨rfl, hb_⟩
        replace hZ := Lib.hid (hZ.out.bel hb_)
        clear hb_ k0 k1
        have k0 := hZ.out.c0 (g := g1) (a := a1) (b := a2) (by simp)
        have k1 := hZ.out.c1 (g := g1) (a := a1) (b := a2) (by simp)
        go_wp2_with (fail)
        refine (her.out _).mono ?_
        rintro e w_ ⟨rfl, hb_⟩
        replace hZ := Lib.hid (hZ.out.bel hb_)
        clear hb_ k0 k1
        have k0 := hZ.out.c0 (g := g1) (a := a1) (b := a2) (by simp)
        have k1 := hZ.out.c1 (g := g1) (a := a1) (b := a2) (by simp)
        go_wp2_with (fail)
        go_returns
        exact ⟨rfl, hZ.out.1⟩
      · exact absurd ⟨hR, n1⟩ hG
end Go.Proofs.YtmmfjonoenmplaaDoor
