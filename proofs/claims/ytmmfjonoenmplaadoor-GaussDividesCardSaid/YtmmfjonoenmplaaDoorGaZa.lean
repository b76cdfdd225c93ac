import Derived.Test.YtmmfjonoenmplaaDoorGaV
namespace Go.Proofs.YtmmfjonoenmplaaDoor
open Go.RowKit Go.Extern.Stop Go.Stop Go.Extern
set_option linter.unusedVariables false
set_option linter.unusedSimpArgs false
/-! the document's near -/
set_option maxRecDepth 100000 in
theorem rnear_any (x n : Int) (hn : 0 < n) (hn2 : n ≤ 1125899906842624) (h1 : -1125899906842624 ≤ x) (h2 : x ≤ 1125899906842624) (w : World) : Calls Tryd.prog 50 #[.int .i64 x, .int .i64 n] w fun e w' => e = .returned (.int .i64 (nearZ x n)) ∧ w' = w := by
  have hc := tm_cases x n hn
  have hd := div_le hn h1 h2 (by decide)
  have m1 := Int.emod_nonneg x (show n ≠ 0 by omega)
  have m2 := Int.emod_lt_of_pos x hn
  unfold nearZ
  obtain ⟨T, hT⟩ : ∃ T, x.tdiv n = T := ⟨_, rfl⟩
  obtain ⟨R, hR⟩ : ∃ R, x.tmod n = R := ⟨_, rfl⟩
  obtain ⟨D, hD⟩ : ∃ D, x / n = D := ⟨_, rfl⟩
  obtain ⟨M, hM⟩ : ∃ M, x % n = M := ⟨_, rfl⟩
  rw [hT, hR, hD, hM] at hc
  rw [hD] at hd
  rw [hM] at m1 m2
  rw [hD, hM]
  clear hD hM
  have t1 : -1125899906842625 ≤ T := by omega
  have t2 : T ≤ 1125899906842625 := by omega
  have r1 : -1125899906842624 ≤ R := by omega
  have r2 : R ≤ 1125899906842624 := by omega
  have hn0 : (n == 0) = false := by simp; omega
  have wm : IntKind.i64.wrap (2 * M) = 2 * M := by rw [IntKind.wrap_i64]; omega
  have wd1 : IntKind.i64.wrap (D + 1) = D + 1 := by rw [IntKind.wrap_i64]; omega
  by_cases hr : R < 0
  · obtain ⟨c1, c2⟩ : T - 1 = D ∧ R + n = M := by omega
    have wt : IntKind.i64.wrap (T - 1) = D := by rw [c1, IntKind.wrap_i64]; omega
    have wr : IntKind.i64.wrap (R + n) = M := by rw [c2, IntKind.wrap_i64]; omega
    clear hc
    by_cases hg : n - M < M
    · have hg2 : n < 2 * M := by omega
      rw [if_pos hg]
      go_enter Tryd.func50, Tryd.ntmps50
      go_wp2_with (fail)
      go_returns
      exact ⟨rfl, rfl⟩
    · have hg2 : ¬ n < 2 * M := by omega
      rw [if_neg hg]
      go_enter Tryd.func50, Tryd.ntmps50
      go_wp2_with (fail)
      go_returns
      exact ⟨rfl, rfl⟩
  · obtain ⟨rfl, rfl⟩ : T = D ∧ R = M := by omega
    clear hc
    by_cases hg : n - R < R
    · have hg2 : n < 2 * R := by omega
      rw [if_pos hg]
      go_enter Tryd.func50, Tryd.ntmps50
      go_wp2_with (fail)
      go_returns
      exact ⟨rfl, rfl⟩
    · have hg2 : ¬ n < 2 * R := by omega
      rw [if_neg hg]
      go_enter Tryd.func50, Tryd.ntmps50
      go_wp2_with (fail)
      go_returns
      exact ⟨rfl, rfl⟩
end Go.Proofs.YtmmfjonoenmplaaDoor
