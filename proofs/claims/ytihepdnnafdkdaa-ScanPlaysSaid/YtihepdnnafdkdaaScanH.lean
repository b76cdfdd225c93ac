import Derived.Test.YtihepdnnafdkdaaScanF
namespace Go.Proofs.Ytihepdnnafdkdaa
open Go.RowKit
set_option linter.unusedVariables false
set_option linter.unusedSimpArgs false
/-! the document's answers -/
set_option maxHeartbeats 1000000 in
theorem rline_any (s : ByteArray) (k : Nat) (w : World) (hk : k ≤ s.size) (hs : s.size ≤ 60000) :
    Calls Try.prog 19 #[.string s, .int .i64 k] w fun e w' => e = .returned (.int .i64 (lfs s k + 1)) ∧ w' = w := by
  go_enter Try.func19, Try.ntmps19
  go_wp2
  go_loop [5, 6] (fun n i => ∃ j : Nat, n = .int .i64 (1 + lfs s j) ∧ i = .int .i64 j ∧ j ≤ k) (fun _ i => k - (intOf i).toNat)
  case atStart => exact ⟨0, rfl, rfl, by omega⟩
  case round =>
    obtain ⟨j, rfl, rfl, hj⟩ := hrel
    have hl := lfs_le s j
    by_cases h : j < k
    · have i0 : (j : Int) < k := by omega
      have i1 : (j : Int) < s.size := by omega
      have i2 : (0 : Int) ≤ j := by omega
      have hjs : j < s.size := by omega
      cases hp : ((s[j].toNat : Int) == 10)
      · have e := lfs_no s j hjs hp
        go_wp2
        go_round
        case rel => exact ⟨j + 1, by rw [← e], by go_num, by omega⟩
        case measure => simp [intOf]; omega
      · have e := lfs_yes s j hjs hp
        go_wp2
        go_round
        case rel => exact ⟨j + 1, by rw [← e]; congr 1; first | done | omega, by go_num, by omega⟩
        case measure => simp [intOf]; omega
    · have e : j = k := by omega
      subst e
      go_wp2
      go_returns
      exact ⟨by rw [Int.add_comm]; rfl, rfl⟩
def untilOut (s : ByteArray) (k : Nat) (x : UInt8) : Ending := if stop (isNot x) s k < s.size then .returned (.tuple #[.string (s.extract k (stop (isNot x) s k)), .int .i64 ((stop (isNot x) s k : Int) + 1 - k), .bool true]) else .returned (.tuple #[.string ByteArray.empty, .int .i64 0, .bool false])
theorem untilOut_yes (s : ByteArray) (k j : Nat) (x : UInt8) (h : stop (isNot x) s k = j) (hj : j < s.size) : .returned (.tuple #[.string (s.extract k j), .int .i64 ((j : Int) + 1 - k), .bool true]) = untilOut s k x := by
  unfold untilOut; rw [h, if_pos hj]
theorem untilOut_no (s : ByteArray) (k : Nat) (x : UInt8) (h : stop (isNot x) s k = s.size) : .returned (.tuple #[.string ByteArray.empty, .int .i64 0, .bool false]) = untilOut s k x := by
  unfold untilOut; rw [h, if_neg (Nat.lt_irrefl _)]
set_option maxHeartbeats 1000000 in
theorem runtil_any (s : ByteArray) (k : Nat) (x : UInt8) (w : World) (hk : k ≤ s.size) (hs : s.size ≤ 60000) :
    Calls Try.prog 15 #[.string s, .int .i64 k, .int .u8 x.toNat] w fun e w' => e = untilOut s k x ∧ w' = w := by
  go_enter Try.func15, Try.ntmps15
  go_wp2
  go_loop [9] (fun i => ∃ j : Nat, i = .int .i64 j ∧ k ≤ j ∧ j ≤ s.size ∧ stop (isNot x) s k = stop (isNot x) s j) (fun i => s.size - (intOf i).toNat)
  case atStart => exact ⟨k, rfl, Nat.le_refl _, hk, rfl⟩
  case round =>
    obtain ⟨j, rfl, h1, h2, hE⟩ := hrel
    have HE := Lib.hid hE
    clear hE
    by_cases hj : j < s.size
    · have i0 : (j : Int) < s.size := by omega
      have i1 : (0 : Int) ≤ j := by omega
      have i2 : (k : Int) ≤ j := by omega
      cases hp : isNot x s[j]
      · have E := Lib.hid (HE.out.trans (stop_no _ s j hj hp))
        have q : ((s[j].toNat : Int) == x.toNat) = true := by simpa [isNot] using hp
        go_wp2
        go_returns
        exact ⟨untilOut_yes s k j x E.out hj, rfl⟩
      · have E := Lib.hid (HE.out.trans (stop_go _ s j hj hp))
        have q : ((s[j].toNat : Int) == x.toNat) = false := by simpa [isNot] using hp
        go_wp2
        go_round
        case rel => exact ⟨j + 1, by go_num, by omega, by omega, E.out⟩
        case measure => simp [intOf]; omega
    · have e : j = s.size := by omega
      subst e
      have E := Lib.hid (HE.out.trans (stop_end _ s s.size (Nat.le_refl _)))
      go_wp2
      go_returns
      exact ⟨untilOut_no s k x E.out, rfl⟩
set_option maxHeartbeats 1000000 in
theorem rword_any (s : ByteArray) (k : Nat) (w : World) (hk : k ≤ s.size) (hs : s.size ≤ 60000) :
    Calls Try.prog 13 #[.string s, .int .i64 k] w fun e w' => e = .returned (.tuple #[.string (s.extract (wBeg s k) (wEnd s k)), .int .i64 ((wNext s k : Int) - k)]) ∧ w' = w := by
  go_enter Try.func13, Try.ntmps13
  go_wp2
  go_loop [6] (fun i => ∃ j : Nat, i = .int .i64 j ∧ k ≤ j ∧ j ≤ s.size ∧ wBeg s k = stop isBlank s j) (fun i => s.size - (intOf i).toNat)
  case atStart => exact ⟨k, rfl, Nat.le_refl _, hk, rfl⟩
  case round =>
    obtain ⟨j, rfl, h1, h2, hE⟩ := hrel
    have HE := Lib.hid hE
    clear hE
    by_cases hg : j < s.size ∧ isBlank (s.data.toList.getD j 0) = true
    · obtain ⟨hj, hp⟩ := hg
      rw [at_is s j hj] at hp
      have i0 : (j : Int) < s.size := by omega
      have i1 : (0 : Int) ≤ j := by omega
      have q : decide ((s[j].toNat : Int) ≤ 32) = true := hp
      have E := Lib.hid (HE.out.trans (stop_go _ s j hj hp))
      go_wp2
      go_round
      case rel => exact ⟨j + 1, by go_num, by omega, by omega, E.out⟩
      case measure => simp [intOf]; omega
    · have E : Hid (wBeg s k = j) := by
        show wBeg s k = j
        rw [HE.out]
        by_cases hj : j < s.size
        · exact stop_no _ s j hj (by rw [← at_is s j hj]; cases h : isBlank (s.data.toList.getD j 0); rfl; exact absurd ⟨hj, h⟩ hg)
        · exact stop_end _ s j (by omega)
      by_cases hj : j < s.size
      · have i0 : (j : Int) < s.size := by omega
        have i1 : (0 : Int) ≤ j := by omega
        have q : decide ((s[j].toNat : Int) ≤ 32) = false := by
          rw [← at_is s j hj]; cases h : isBlank (s.data.toList.getD j 0); exact h; exact absurd ⟨hj, h⟩ hg
        go_wp2
        go_loop [6] (fun i => ∃ m : Nat, i = .int .i64 m ∧ j ≤ m ∧ m ≤ s.size ∧ wEnd s k = stop isInk s m) (fun i => s.size - (intOf i).toNat)
        case atStart => exact ⟨j, rfl, Nat.le_refl _, h2, by unfold wEnd; rw [E.out]⟩
        case round =>
          obtain ⟨m, rfl, g1, g2, hF⟩ := hrel
          have HF := Lib.hid hF
          clear hF
          have l1 : (j : Int) ≤ m := by omega
          have l2 : (m : Int) ≤ s.size := by omega
          have l0 : (0 : Int) ≤ j := by omega
          by_cases hg2 : m < s.size ∧ isInk (s.data.toList.getD m 0) = true
          · obtain ⟨hm, hp⟩ := hg2
            rw [at_is s m hm] at hp
            have j0 : (m : Int) < s.size := by omega
            have j1 : (0 : Int) ≤ m := by omega
            have q2 : decide (32 < (s[m].toNat : Int)) = true := hp
            have F := Lib.hid (HF.out.trans (stop_go _ s m hm hp))
            go_wp2
            go_round
            case rel => exact ⟨m + 1, by go_num, by omega, by omega, F.out⟩
            case measure => simp [intOf]; omega
          · have F : Hid (wEnd s k = m) := by
              show wEnd s k = m
              rw [HF.out]
              by_cases hm : m < s.size
              · exact stop_no _ s m hm (by rw [← at_is s m hm]; cases h : isInk (s.data.toList.getD m 0); rfl; exact absurd ⟨hm, h⟩ hg2)
              · exact stop_end _ s m (by omega)
            by_cases hm : m < s.size
            · have j0 : (m : Int) < s.size := by omega
              have j1 : (0 : Int) ≤ m := by omega
              have q2 : decide (32 < (s[m].toNat : Int)) = false := by
                rw [← at_is s m hm]; cases h : isInk (s.data.toList.getD m 0); exact h; exact absurd ⟨hm, h⟩ hg2
              have N : Hid ((wNext s k : Int) = m + 1) := by
                show (wNext s k : Int) = m + 1
                unfold wNext nxt; rw [F.out, if_pos hm]; rfl
              go_wp2
              go_returns
              exact ⟨by rw [E.out, F.out, N.out]; rfl, rfl⟩
            · have e : m = s.size := by omega
              subst e
              have N : Hid ((wNext s k : Int) = s.size) := by
                show (wNext s k : Int) = s.size
                unfold wNext nxt; rw [F.out, if_neg (by omega)]
              go_wp2
              go_returns
              exact ⟨by rw [E.out, F.out, N.out]; rfl, rfl⟩
      · have i0 : ¬ (j : Int) < s.size := by omega
        go_wp2
        go_loop [6] (fun i => ∃ m : Nat, i = .int .i64 m ∧ j ≤ m ∧ m ≤ s.size ∧ wEnd s k = stop isInk s m) (fun i => s.size - (intOf i).toNat)
        case atStart => exact ⟨j, rfl, Nat.le_refl _, h2, by unfold wEnd; rw [E.out]⟩
        case round =>
          obtain ⟨m, rfl, g1, g2, hF⟩ := hrel
          have HF := Lib.hid hF
          clear hF
          have l1 : (j : Int) ≤ m := by omega
          have l2 : (m : Int) ≤ s.size := by omega
          have l0 : (0 : Int) ≤ j := by omega
          by_cases hg2 : m < s.size ∧ isInk (s.data.toList.getD m 0) = true
          · obtain ⟨hm, hp⟩ := hg2
            rw [at_is s m hm] at hp
            have j0 : (m : Int) < s.size := by omega
            have j1 : (0 : Int) ≤ m := by omega
            have q2 : decide (32 < (s[m].toNat : Int)) = true := hp
            have F := Lib.hid (HF.out.trans (stop_go _ s m hm hp))
            go_wp2
            go_round
            case rel => exact ⟨m + 1, by go_num, by omega, by omega, F.out⟩
            case measure => simp [intOf]; omega
          · have F : Hid (wEnd s k = m) := by
              show wEnd s k = m
              rw [HF.out]
              by_cases hm : m < s.size
              · exact stop_no _ s m hm (by rw [← at_is s m hm]; cases h : isInk (s.data.toList.getD m 0); rfl; exact absurd ⟨hm, h⟩ hg2)
              · exact stop_end _ s m (by omega)
            by_cases hm : m < s.size
            · have j0 : (m : Int) < s.size := by omega
              have j1 : (0 : Int) ≤ m := by omega
              have q2 : decide (32 < (s[m].toNat : Int)) = false := by
                rw [← at_is s m hm]; cases h : isInk (s.data.toList.getD m 0); exact h; exact absurd ⟨hm, h⟩ hg2
              have N : Hid ((wNext s k : Int) = m + 1) := by
                show (wNext s k : Int) = m + 1
                unfold wNext nxt; rw [F.out, if_pos hm]; rfl
              go_wp2
              go_returns
              exact ⟨by rw [E.out, F.out, N.out]; rfl, rfl⟩
            · have e : m = s.size := by omega
              subst e
              have N : Hid ((wNext s k : Int) = s.size) := by
                show (wNext s k : Int) = s.size
                unfold wNext nxt; rw [F.out, if_neg (by omega)]
              go_wp2
              go_returns
              exact ⟨by rw [E.out, F.out, N.out]; rfl, rfl⟩
end Go.Proofs.Ytihepdnnafdkdaa
