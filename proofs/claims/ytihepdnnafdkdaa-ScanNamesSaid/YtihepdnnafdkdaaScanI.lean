import Derived.Test.YtihepdnnafdkdaaScanF
namespace Go.Proofs.Ytihepdnnafdkdaa
open Go.RowKit
set_option linter.unusedVariables false
set_option linter.unusedSimpArgs false
/-- a letter as a small one -/
def lowB (c : UInt8) : UInt8 := if (65 ≤ (c.toNat : Int) ∧ (c.toNat : Int) ≤ 90) then c + 32 else c
theorem low_yes (c : UInt8) (h1 : 65 ≤ (c.toNat : Int)) (h2 : (c.toNat : Int) ≤ 90) : ((lowB c).toNat : Int) = c.toNat + 32 := by
  unfold lowB
  rw [if_pos ⟨h1, h2⟩, UInt8.toNat_add]
  simp; omega
set_option maxHeartbeats 1000000 in
theorem rlow_any (c : UInt8) (w : World) : Calls Try.prog 31 #[.int .u8 c.toNat] w fun e w' => e = .returned (.int .u8 (lowB c).toNat) ∧ ∃ n, w' = w.drewN n := by
  by_cases h1 : 65 ≤ (c.toNat : Int)
  · by_cases h2 : (c.toNat : Int) ≤ 90
    · have e := Lib.hid (low_yes c h1 h2)
      go_enter Try.func31, Try.ntmps31
      go_wp2
      go_returns
      exact ⟨by rw [e.out]; rfl, 0, rfl⟩
    · have e : Hid (lowB c = c) := by show lowB c = c; unfold lowB; rw [if_neg (by omega)]
      go_enter Try.func31, Try.ntmps31
      go_wp2
      go_returns
      exact ⟨by rw [e.out]; rfl, 0, rfl⟩
  · have e : Hid (lowB c = c) := by show lowB c = c; unfold lowB; rw [if_neg (by omega)]
    go_enter Try.func31, Try.ntmps31
    go_wp2
    go_returns
    exact ⟨by rw [e.out]; rfl, 0, rfl⟩
/-- a name is what has one to thirty-one bytes, none of them blank -/
def nameOk (s : ByteArray) : Bool := decide (1 ≤ s.size ∧ s.size ≤ 31 ∧ stop isInk s 0 = s.size)
theorem nameOk_no (s : ByteArray) (h : ¬ (1 ≤ s.size ∧ s.size ≤ 31 ∧ stop isInk s 0 = s.size)) : Value.bool (nameOk s) = .bool false := by
  unfold nameOk; rw [decide_eq_false h]
theorem nameOk_yes (s : ByteArray) (h1 : 1 ≤ s.size) (h2 : s.size ≤ 31) (h : stop isInk s 0 = s.size) : Value.bool (nameOk s) = .bool true := by
  unfold nameOk; rw [decide_eq_true ⟨h1, h2, h⟩]
set_option maxHeartbeats 1000000 in
theorem rname_any (s : ByteArray) (w : World) (hs : s.size ≤ maxLen) :
    Calls Try.prog 23 #[.string s] w fun e w' => e = .returned (.bool (nameOk s)) ∧ w' = w := by
  by_cases h1 : s.size < 1
  · have i1 : (s.size : Int) < 1 := by omega
    go_enter Try.func23, Try.ntmps23
    go_wp2
    go_returns
    exact ⟨by rw [nameOk_no s (by omega)]; rfl, rfl⟩
  · have hs2 : s.size ≤ 9223372036854775807 := Nat.le_trans hs (by decide)
    by_cases h2 : 31 < s.size
    · have i1 : ¬ (s.size : Int) < 1 := by omega
      have i2 : 31 < (s.size : Int) := by omega
      go_enter Try.func23, Try.ntmps23
      go_wp2
      go_returns
      exact ⟨by rw [nameOk_no s (by omega)]; rfl, rfl⟩
    · have i1 : ¬ (s.size : Int) < 1 := by omega
      have i2 : ¬ 31 < (s.size : Int) := by omega
      go_enter Try.func23, Try.ntmps23
      go_wp2
      go_loop [3] (fun i => ∃ j : Nat, i = .int .i64 j ∧ j ≤ s.size ∧ stop isInk s 0 = stop isInk s j) (fun i => s.size - (intOf i).toNat)
      case atStart => exact ⟨0, rfl, by omega, rfl⟩
      case round =>
        obtain ⟨j, rfl, hj0, hE⟩ := hrel
        have HE := Lib.hid hE
        clear hE
        have l0 : (0 : Int) ≤ j := by omega
        by_cases hj : j < s.size
        · have j0 : (j : Int) < s.size := by omega
          cases hp : isInk s[j]
          · have E := Lib.hid (HE.out.trans (stop_no _ s j hj hp))
            have q : (s[j].toNat : Int) ≤ 32 := by simpa [isInk] using hp
            go_wp2
            go_returns
            exact ⟨by rw [nameOk_no s (by rw [E.out]; omega)]; rfl, rfl⟩
          · have E := Lib.hid (HE.out.trans (stop_go _ s j hj hp))
            have q : ¬ (s[j].toNat : Int) ≤ 32 := by have : 32 < (s[j].toNat : Int) := by simpa [isInk] using hp
                                                     omega
            go_wp2
            go_round
            case rel => exact ⟨j + 1, by go_num, by omega, E.out⟩
            case measure => simp [intOf]; omega
        · have e : j = s.size := by omega
          subst e
          have E := Lib.hid (HE.out.trans (stop_end _ s _ (Nat.le_refl _)))
          go_wp2
          go_returns
          exact ⟨by rw [nameOk_yes s (by omega) (by omega) E.out]; rfl, rfl⟩
end Go.Proofs.Ytihepdnnafdkdaa
