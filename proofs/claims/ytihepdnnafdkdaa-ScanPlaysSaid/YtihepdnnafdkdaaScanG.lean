import Derived.Test.YtihepdnnafdkdaaScanF
namespace Go.Proofs.Ytihepdnnafdkdaa
open Go.RowKit
set_option linter.unusedVariables false
set_option linter.unusedSimpArgs false
section
variable (b : Nat) (s : ByteArray) (a j : Nat) (w : World) (h : Src w b s (a + j)) (hk : a + j ≤ s.size) (hs : s.size ≤ 60000)
include h hk hs
theorem word_tail : Calls Try.prog 9 #[.pointer (some ⟨b, 0, none⟩)] w fun e w' => e = .returned (.tuple #[.string ((s.extract a s.size).extract (wBeg (s.extract a s.size) j) (wEnd (s.extract a s.size) j)), .int .i64 ((wNext (s.extract a s.size) j : Int) - j)]) ∧ Src w' b s (a + wNext (s.extract a s.size) j) ∧ Only b w w' := by
  have g := word_any b s (a + j) w h hk hs
  obtain ⟨q1, q2, q3⟩ := tail_word s a j hk
  have h0 : j ≤ (s.extract a s.size).size := by rw [tail_size s a (by omega)]; omega
  have bd := w_bounds _ j h0
  rw [tail_size s a (by omega)] at bd
  rw [q1, q2, q3, tail_cut s a _ _ (by omega), show ((a + wNext (s.extract a s.size) j : Nat) : Int) - (a + j : Nat) = (wNext (s.extract a s.size) j : Int) - j by omega] at g
  exact g
theorem rest_tail : Calls Try.prog 16 #[.pointer (some ⟨b, 0, none⟩)] w fun e w' => e = .returned (.int .i64 ((lNext (s.extract a s.size) j : Int) - j)) ∧ Src w' b s (a + lNext (s.extract a s.size) j) ∧ Only b w w' := by
  have g := rest_any b s (a + j) w h hk hs
  rw [tail_line s a j hk, show ((a + lNext (s.extract a s.size) j : Nat) : Int) - (a + j : Nat) = (lNext (s.extract a s.size) j : Int) - j by omega] at g
  exact g
theorem until_yes_tail (x : UInt8) (hf : stop (isNot x) (s.extract a s.size) j < (s.extract a s.size).size) :
    Calls Try.prog 14 #[.pointer (some ⟨b, 0, none⟩), .int .u8 x.toNat] w fun e w' => e = .returned (.tuple #[.string ((s.extract a s.size).extract j (stop (isNot x) (s.extract a s.size) j)), .int .i64 ((stop (isNot x) (s.extract a s.size) j : Int) + 1 - j), .int .i64 0]) ∧ Src w' b s (a + (stop (isNot x) (s.extract a s.size) j + 1)) ∧ Only b w w' := by
  have e := tail_stop0 (isNot x) s a j hk
  have hf2 := hf
  rw [tail_size s a (by omega)] at hf2
  have g := until_yes b s (a + j) x w h hk hs (by omega)
  rw [e, tail_cut s a _ _ (by omega), show ((a + stop (isNot x) (s.extract a s.size) j : Nat) : Int) + 1 - (a + j : Nat) = (stop (isNot x) (s.extract a s.size) j : Int) + 1 - j by omega] at g
  exact g
theorem until_no_tail (x : UInt8) (hf : stop (isNot x) (s.extract a s.size) j = (s.extract a s.size).size) :
    Calls Try.prog 14 #[.pointer (some ⟨b, 0, none⟩), .int .u8 x.toNat] w fun e w' => e = .returned (.tuple #[.string ByteArray.empty, .int .i64 0, .int .i64 21]) ∧ Src w' b s (a + j) ∧ Only b w w' := by
  have e := tail_stop0 (isNot x) s a j hk
  have hf2 := hf
  rw [tail_size s a (by omega)] at hf2
  exact until_no b s (a + j) x w h hk hs (by omega)
end
theorem byte_of (b : Int) (h : (Lit.int .u8 b).wf = true) : ∃ x : UInt8, b = (x.toNat : Int) := by
  have : 0 ≤ b ∧ b ≤ 255 := by simpa [Lit.wf, IntKind.min, IntKind.max, IntKind.signed, IntKind.bits] using h
  refine ⟨UInt8.ofNat b.toNat, ?_⟩
  simp
  omega
set_option maxHeartbeats 2000000 in
set_option maxRecDepth 100000 in
theorem walk_rest (s : ByteArray) (far b : Int) (hs : s.size ≤ maxLen) (hfar : (Lit.int .i64 far).wf = true) (hb : (Lit.int .u8 b).wf = true) (w : World) :
    Calls Try.prog 5 #[.string s, .int .i64 far, .int .u8 b] w fun e w' => e = .returned (.bool true) ∧ Below w.heap.size w w' := by
  obtain ⟨x, rfl⟩ := byte_of b hb
  have fb : -9223372036854775808 ≤ far ∧ far ≤ 9223372036854775807 := by
    simpa [Lit.wf, IntKind.min, IntKind.max, IntKind.signed, IntKind.bits] using hfar
  go_enter Try.func5, Try.ntmps5
  go_wp2_with (fail)
  refine (shown_any w).mono ?_
  rintro e w0 ⟨rfl, hB0⟩
  by_cases hl : 60000 < s.size
  · go_wp2_with (fail)
    refine (new_long s w0 hl).mono ?_
    rintro e w1 ⟨rfl, rfl⟩
    go_wp2
    go_returns
    exact ⟨rfl, hB0⟩
  · have hle : s.size ≤ 60000 := by omega
    go_wp2_with (fail)
    refine (new_ok s w0 hle).mono ?_
    rintro e w1 ⟨rfl, rfl⟩
    go_wp2_with (fail)
    refine (pick_any far 20 _ fb.1 fb.2 (by decide) (by decide)).mono ?_
    rintro e w1 ⟨r, rfl, hr, rfl⟩
    have hS0 := new_src s w0
    have hO0 := (Only.refl w0.heap.size w0).past (.cells #[.string s, .int .i64 0, .int .i64 0] 53)
    generalize w0.alloc (.cells #[.string s, .int .i64 0, .int .i64 0] 53) = w1 at *
    go_wp2_with (fail)
    go_loopw [10] (fun i wr => ∃ (j k : Nat), i = .int .i64 j ∧ j ≤ 20 ∧ k ≤ s.size ∧ Src wr w0.heap.size s k ∧ Only w0.heap.size w0 wr) (fun i _ => (intOf i).toNat)
    case atStart => exact ⟨r, 0, rfl, by omega, by omega, hS0, hO0⟩
    case round =>
      obtain ⟨j, k, rfl, hj, hk, hS, hO⟩ := hrel
      clear hS0 hO0
      by_cases h0 : 0 < j
      · have i0 : (0 : Int) < j := by omega
        go_wp2_with (fail)
        refine (word_any _ s k _ hS hk hle).mono ?_
        rintro e w2 ⟨rfl, hS2, hO2⟩
        go_wp2
        refine ⟨⟨j - 1, _, by rw [Int.ofNat_sub (by omega)]; rfl, by omega, (w_bounds s k hk).2.2.2.2.2, hS2, hO.trans hO2⟩, ?_⟩
        simp [intOf]; omega
      · have e : j = 0 := by omega
        subst e
        have i0 : ¬ (k : Int) < 0 := by omega
        have i1 : ¬ (s.size : Int) < k := by omega
        have i2 : (0 : Int) ≤ k := by omega
        have i3 : (k : Int) ≤ s.size := by omega
        go_wp2_with (fail)
        refine (at_any _ s k wr hS).mono ?_
        rintro e w2 ⟨rfl, rfl⟩
        go_wp2_with (fail)
        refine (at_any _ s k _ hS).mono ?_
        rintro e w3 ⟨rfl, rfl⟩
        go_wp2_with (fail)
        refine (at_any _ s k _ hS).mono ?_
        rintro e w4 ⟨rfl, rfl⟩
        go_wp2_with (fail)
        have ts := tail_size s k hk
        refine (new_ok (s.extract k s.size) _ (by omega)).mono ?_
        rintro e w5 ⟨rfl, rfl⟩
        have hlt := hS.lt
        have hT0 := new_src (s.extract k s.size) w4
        have hS5 : Src _ w0.heap.size s k := hS.past (.cells #[.string (s.extract k s.size), .int .i64 0, .int .i64 0] 53)
        have hB5 : Below w0.heap.size w0 _ := (hO.past (.cells #[.string (s.extract k s.size), .int .i64 0, .int .i64 0] 53)).below (Nat.le_refl _) (Nat.le_refl _)
        generalize w4.alloc (.cells #[.string (s.extract k s.size), .int .i64 0, .int .i64 0] 53) = w5 at *
        have hne : w4.heap.size ≠ w0.heap.size := by omega
        have hge : w0.heap.size ≤ w4.heap.size := by omega
        generalize hgb : w4.heap.size = tb at *
        go_wp2_with (fail)
        clear hS hO
        have TS := Lib.hid ts
        clear ts
        go_loopw [12] (fun i wr => ∃ (j m : Nat), i = .int .i64 j ∧ j ≤ 6 ∧ k + m ≤ s.size ∧ Src wr w0.heap.size s (k + m) ∧ Src wr tb (s.extract k s.size) m ∧ Below w0.heap.size w0 wr) (fun i _ => 6 - (intOf i).toNat)
        case atStart => exact ⟨0, 0, rfl, by omega, by omega, hS5, hT0, hB5⟩
        case round =>
          obtain ⟨j, m, rfl, hj6, hm, hS, hT, hB⟩ := hrel
          clear hS5 hT0 hB5
          by_cases h6 : j < 6
          · have i6 : (j : Int) < 6 := by omega
            have hm0 : m ≤ (s.extract k s.size).size := by have := TS.out; omega
            have hT6 : (s.extract k s.size).size ≤ 60000 := by have := TS.out; omega
            go_wp2_with (fail)
            refine (word_tail _ s k m _ hS hm hle).mono ?_
            rintro e w6 ⟨rfl, hS6, hO6⟩
            have hT6' := hO6.bk hT hne
            have hB6 := hB.trans (hO6.below (Nat.le_refl _) hB.size)
            obtain ⟨_, _, _, _, _, bd⟩ := w_bounds _ m hm0
            go_wp2_with (fail)
            refine (word_any _ _ m _ hT6' hm0 hT6).mono ?_
            rintro e w7 ⟨rfl, hT7, hO7⟩
            have hS7 : Src w7 _ _ _ := hO7.bk hS6 hne.symm
            have hB7 := hB6.trans (hO7.below hge hB6.size)
            generalize hn7 : wNext (s.extract k s.size) m = m7 at *
            have hm7 : k + m7 ≤ s.size := by have := TS.out; omega
            clear hS hT hS6 hT6' hB hB6
            by_cases hf : stop (isNot x) (s.extract k s.size) m7 < (s.extract k s.size).size
            · go_wp2_with (fail)
              refine (until_yes_tail _ s k m7 _ hS7 hm7 hle x hf).mono ?_
              rintro e w8 ⟨rfl, hS8, hO8⟩
              have hT8' := hO8.bk hT7 hne
              have hB8 := hB7.trans (hO8.below (Nat.le_refl _) hB7.size)
              go_wp2_with (fail)
              refine (until_yes _ _ m7 x _ hT8' bd hT6 hf).mono ?_
              rintro e w9 ⟨rfl, hT9, hO9⟩
              have hS9 : Src w9 _ _ _ := hO9.bk hS8 hne.symm
              have hB9 := hB8.trans (hO9.below hge hB8.size)
              go_wp2_with (fail)
              have hp9 : k + (stop (isNot x) (s.extract k s.size) m7 + 1) ≤ s.size := by have := TS.out; omega
              have hp9' : (stop (isNot x) (s.extract k s.size) m7 + 1) ≤ (s.extract k s.size).size := by omega
              refine (rest_tail _ s k _ _ hS9 hp9 hle).mono ?_
              rintro e w10 ⟨rfl, hS10, hO10⟩
              have hT10' := hO10.bk hT9 hne
              have hB10 := hB9.trans (hO10.below (Nat.le_refl _) hB9.size)
              have bd2 := (l_bounds _ _ hp9').2
              go_wp2_with (fail)
              refine (rest_any _ _ _ _ hT10' hp9' hT6).mono ?_
              rintro e w11 ⟨rfl, hT11, hO11⟩
              have hS11 : Src w11 _ _ _ := hO11.bk hS10 hne.symm
              have hB11 := hB10.trans (hO11.below hge hB10.size)
              go_wp2
              refine ⟨⟨j + 1, _, by simp, by omega, by have := TS.out; omega, hS11, hT11, hB11⟩, ?_⟩
              simp [intOf]; omega
            · have hf2 : stop (isNot x) (s.extract k s.size) m7 = (s.extract k s.size).size := by
                have := stop_le (isNot x) _ m7 bd; omega
              go_wp2_with (fail)
              refine (until_no_tail _ s k m7 _ hS7 hm7 hle x hf2).mono ?_
              rintro e w8 ⟨rfl, hS8, hO8⟩
              have hT8' := hO8.bk hT7 hne
              have hB8 := hB7.trans (hO8.below (Nat.le_refl _) hB7.size)
              go_wp2_with (fail)
              refine (until_no _ _ m7 x _ hT8' bd hT6 hf2).mono ?_
              rintro e w9 ⟨rfl, hT9, hO9⟩
              have hS9 : Src w9 _ _ _ := hO9.bk hS8 hne.symm
              have hB9 := hB8.trans (hO9.below hge hB8.size)
              go_wp2_with (fail)
              have hp9 : k + m7 ≤ s.size := by have := TS.out; omega
              have hp9' : m7 ≤ (s.extract k s.size).size := by omega
              refine (rest_tail _ s k _ _ hS9 hp9 hle).mono ?_
              rintro e w10 ⟨rfl, hS10, hO10⟩
              have hT10' := hO10.bk hT9 hne
              have hB10 := hB9.trans (hO10.below (Nat.le_refl _) hB9.size)
              have bd2 := (l_bounds _ _ hp9').2
              go_wp2_with (fail)
              refine (rest_any _ _ _ _ hT10' hp9' hT6).mono ?_
              rintro e w11 ⟨rfl, hT11, hO11⟩
              have hS11 : Src w11 _ _ _ := hO11.bk hS10 hne.symm
              have hB11 := hB10.trans (hO11.below hge hB10.size)
              go_wp2
              refine ⟨⟨j + 1, _, by simp, by omega, by have := TS.out; omega, hS11, hT11, hB11⟩, ?_⟩
              simp [intOf]; omega
          · have i6 : ¬ (j : Int) < 6 := by omega
            go_wp2
            go_returns
            exact ⟨rfl, hB0.trans (hB.mono hB0.size)⟩
end Go.Proofs.Ytihepdnnafdkdaa
