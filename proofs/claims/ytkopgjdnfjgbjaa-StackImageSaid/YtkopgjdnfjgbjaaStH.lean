import Derived.Test.YtkopgjdnfjgbjaaStF
namespace Go.Proofs.Ytkopgjdnfjgbjaa
open Go.RowKit
set_option linter.unusedVariables false
set_option linter.unusedSimpArgs false
/-! sameCells -/
section
variable {w : World}
set_option maxHeartbeats 1000000 in
theorem same_len (A A' : Option Addr) (n c n' c' : Nat) (w : World) (h : n ≠ n') : Calls Try.prog 21 #[.slice A n c, .slice A' n' c'] w fun e w' => e = .returned (.bool false) ∧ w' = w := by
  have i1 : ((n : Int) != (n' : Int)) = true := by simp; omega
  go_enter Try.func21, Try.ntmps21
  go_wp2_with (fail)
  go_returns
  exact ⟨rfl, rfl⟩
set_option maxHeartbeats 2000000 in
theorem same_any (A A' : Option Addr) (n c n' c' sb so sb' so' : Nat) (xs ys : List Int) (w : World) (hx : Rowd w A sb so xs) (hy : Rowd w A' sb' so' ys) (hn : xs.length = n) (hn' : ys.length = n') (hm : (n : Int) ≤ 140737488355328) :
    Calls Try.prog 21 #[.slice A n c, .slice A' n' c'] w fun e w' => e = .returned (.bool (decide (xs = ys))) ∧ ∃ k, w' = w.drewN k := by
  by_cases hl : n = n'
  · subst hl
    have i1 : ((n : Int) != (n : Int)) = false := by simp
    obtain ⟨R, hR⟩ : ∃ R, decide (xs = ys) = R := ⟨_, rfl⟩
    rw [hR]
    replace hx := Lib.hid hx
    replace hy := Lib.hid hy
    replace hR := Lib.hid hR
    replace hn := Lib.hid hn
    replace hn' := Lib.hid hn'
    go_enter Try.func21, Try.ntmps21
    go_wp2_with (fail)
    go_loopw [5] (fun i wr => ∃ j : Nat, i = .int .i64 j ∧ j ≤ n ∧ (∀ k, k < j → xs[k]? = ys[k]?) ∧ Hid (∃ k, wr = w.drewN k)) (fun i _ => n - (intOf i).toNat)
    case atStart => exact ⟨0, rfl, Nat.zero_le _, fun k hk => absurd hk (Nat.not_lt_zero _), Lib.hid ⟨0, rfl⟩⟩
    case round =>
      obtain ⟨j, rfl, hj0, hE, hW⟩ := hrel
      replace hE := Lib.hid hE
      by_cases hj : j < n
      · have jx : j < xs.length := by rw [hn.out]; exact hj
        have jy : j < ys.length := by rw [hn'.out]; exact hj
        obtain ⟨ax, cx⟩ := hx.out j jx
        obtain ⟨ay, cy⟩ := hy.out j jy
        have cx' : wr.cell? ⟨sb, so + j, none⟩ = some (.int .i64 xs[j]) := by obtain ⟨k, hk⟩ := hW.out; rw [hk]; exact cx
        have cy' : wr.cell? ⟨sb', so' + j, none⟩ = some (.int .i64 ys[j]) := by obtain ⟨k, hk⟩ := hW.out; rw [hk]; exact cy
        subst ax
        subst ay
        clear cx cy
        have j0 : (j : Int) < (n : Int) := by omega
        have jb : (0 : Int) ≤ j ∧ (j : Int) < n := by omega
        by_cases hq : xs[j] = ys[j]
        · have q : ((xs[j] : Int) != ys[j]) = false := by simp [hq]
          have Q := Lib.hid hq
          clear hq
          go_wp2_with (fail)
          go_quiet (fail)
          go_wp2_with (fail)
          refine ⟨⟨j + 1, rfl, by omega, fun k hk => ?_, by obtain ⟨k, hk⟩ := hW.out; exact Lib.hid ⟨k + nq, by rw [hk, World.drewN_drewN]⟩⟩, by simp [intOf]; omega⟩
          by_cases e : k = j
          · subst e; rw [List.getElem?_eq_getElem jx, List.getElem?_eq_getElem jy, Q.out]
          · exact hE.out k (by omega)
        · have q : ((xs[j] : Int) != ys[j]) = true := by simp [hq]
          have Q : Hid (¬ xs[j] = ys[j]) := hq
          clear hq
          go_wp2_with (fail)
          go_quiet (fail)
          go_wp2_with (fail)
          go_returns
          obtain ⟨k, hk⟩ := hW.out
          refine ⟨?_, k + nq, by rw [hk, World.drewN_drewN]⟩
          have : R = false := by rw [← hR.out]; exact decide_eq_false (fun e => Q.out (by subst e; rfl))
          rw [this]; rfl
      · have e : j = n := by omega
        subst e
        go_wp2_with (fail)
        go_returns
        refine ⟨?_, hW.out⟩
        have : R = true := by
          rw [← hR.out]
          refine decide_eq_true (List.ext_getElem? fun k => ?_)
          by_cases hk : k < j
          · exact hE.out k hk
          · rw [List.getElem?_eq_none (by rw [hn.out]; omega), List.getElem?_eq_none (by rw [hn'.out]; omega)]
        rw [this]; rfl
  · have hne : decide (xs = ys) = false := decide_eq_false (fun e => hl (by rw [← hn, ← hn', e]))
    rw [hne]
    exact (same_len A A' n c n' c' w hl).mono fun e w' h => ⟨h.1, 0, h.2⟩
end
end Go.Proofs.Ytkopgjdnfjgbjaa
