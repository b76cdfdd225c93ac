import Derived.Test.YtihepdnnafdkdaaScanI
namespace Go.Proofs.Ytihepdnnafdkdaa
open Go.RowKit
set_option linter.unusedVariables false
set_option linter.unusedSimpArgs false
/-- how far two texts are alike, from k on -/
def alike (a b : ByteArray) (k : Nat) : Prop := ∀ i, k ≤ i → i < a.size → lowB (a.data.toList.getD i 0) = lowB (b.data.toList.getD i 0)
noncomputable instance (a b : ByteArray) (k : Nat) : Decidable (alike a b k) := Classical.propDecidable _
noncomputable def sameOk (a b : ByteArray) : Bool := decide (a.size = b.size ∧ alike a b 0)
theorem same_no (a b : ByteArray) (h : ¬ (a.size = b.size ∧ alike a b 0)) : Value.bool (sameOk a b) = .bool false := by
  unfold sameOk; rw [decide_eq_false h]
theorem same_yes (a b : ByteArray) (h1 : a.size = b.size) (h : alike a b 0) : Value.bool (sameOk a b) = .bool true := by
  unfold sameOk; rw [decide_eq_true ⟨h1, h⟩]
set_option maxHeartbeats 1000000 in
theorem rsame_any (a b : ByteArray) (w : World) (ha : a.size ≤ maxLen) (hb : b.size ≤ maxLen) :
    Calls Try.prog 21 #[.string a, .string b] w fun e w' => e = .returned (.bool (sameOk a b)) ∧ ∃ n, w' = w.drewN n := by
  have ha2 : a.size ≤ 9223372036854775807 := Nat.le_trans ha (by decide)
  by_cases h1 : a.size = b.size
  · have i1 : ((a.size : Int) == b.size) = true := by simp [h1]
    have i2 : ((a.size : Int) != b.size) = false := by simp [h1]
    go_enter Try.func21, Try.ntmps21
    go_wp2
    go_loopw [5] (fun i wr => ∃ j : Nat, i = .int .i64 j ∧ j ≤ a.size ∧ (∀ i, i < j → lowB (a.data.toList.getD i 0) = lowB (b.data.toList.getD i 0)) ∧ ∃ n, wr = w.drewN n) (fun i _ => a.size - (intOf i).toNat)
    case atStart => exact ⟨0, rfl, by omega, fun i hi => by omega, 0, rfl⟩
    case round =>
      obtain ⟨j, rfl, hj0, hE, hW⟩ := hrel
      have HW := Lib.hid hW
      clear hW
      have HE := Lib.hid hE
      clear hE
      have l0 : (0 : Int) ≤ j := by omega
      by_cases hj : j < a.size
      · have j0 : (j : Int) < a.size := by omega
        have j1 : (j : Int) < b.size := by omega
        have j2 : j < b.size := by omega
        by_cases hq : lowB a[j] = lowB b[j]
        · have q : (((lowB a[j]).toNat : Int) != (lowB b[j]).toNat) = false := by rw [hq]; simp
          have Q := Lib.hid hq
          clear hq
          go_wp2
          go_quiet ((go_at_call 31; exact Calls.quiet_of (rlow_any _ _)))
          go_wp2
          obtain ⟨n, hn⟩ := HW.out
          refine ⟨⟨j + 1, rfl, by omega, fun i hi => ?_, n + nq, by rw [hn, World.drewN_drewN]⟩, by simp [intOf]; omega⟩
          by_cases e : i = j
          · subst e; rw [at_is a i hj, at_is b i j2]; exact Q.out
          · exact HE.out i (by omega)
        · have q : (((lowB a[j]).toNat : Int) != (lowB b[j]).toNat) = true := by
            simp; intro h; exact hq (UInt8.toNat_inj.1 (by omega))
          have Q : Hid (¬ lowB a[j] = lowB b[j]) := hq
          clear hq
          go_wp2
          go_quiet ((go_at_call 31; exact Calls.quiet_of (rlow_any _ _)))
          go_wp2
          go_returns
          obtain ⟨n, hn⟩ := HW.out
          refine ⟨by rw [same_no a b (fun h => Q.out (by have := h.2 j (by omega) hj; rwa [at_is a j hj, at_is b j j2] at this))]; rfl, n + nq, by rw [hn, World.drewN_drewN]⟩
      · have e : j = a.size := by omega
        subst e
        go_wp2
        go_returns
        exact ⟨by rw [same_yes a b h1 (fun i _ hi => HE.out i hi)]; rfl, HW.out⟩
  · have i2 : ((a.size : Int) != b.size) = true := by simp; omega
    go_enter Try.func21, Try.ntmps21
    go_wp2
    go_returns
    exact ⟨by rw [same_no a b (fun h => h1 h.1)]; rfl, 0, rfl⟩
end Go.Proofs.Ytihepdnnafdkdaa
