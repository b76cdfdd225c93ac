import Derived.Test.YtoaiiimnfgbcaaaImA
namespace Go.Proofs.Ytoaiiimnfgbcaaa
open Go.RowKit
set_option linter.unusedVariables false
set_option linter.unusedSimpArgs false
set_option maxHeartbeats 4000000 in
theorem may_in (p b : Nat) (L : Lay) (B : List UInt8) (o s : Bool) (mode r : Int) (w : World) (h : Im w p b L B o s) (h1 : ¬ r < 1) (h2 : ¬ 5 < r) :
    Calls Try.prog 34 #[.pointer (some ⟨p, 0, none⟩), .int .i64 mode, .int .i64 r] w fun e w' => e = .returned (.int .i64 (mayN o s mode r)) ∧ w' = w := by
  have c13 := h.c13
  have c14 := h.c14
  clear h
  have hm : (mode = 0) ∨ (mode = 1) ∨ (mode = 2) ∨ ((mode == 0) = false ∧ (mode == 1) = false ∧ (mode == 2) = false) := by
    by_cases a : mode = 0
    · exact .inl a
    · by_cases b : mode = 1
      · exact .inr (.inl b)
      · by_cases c : mode = 2
        · exact .inr (.inr (.inl c))
        · exact .inr (.inr (.inr ⟨by simpa using a, by simpa using b, by simpa using c⟩))
  have hr : r = 1 ∨ r = 2 ∨ r = 3 ∨ r = 4 ∨ r = 5 := by omega
  clear h1 h2
  rcases hr with rfl | rfl | rfl | rfl | rfl
  · cases s
    all_goals (
      rcases hm with rfl | rfl | rfl | ⟨m0, m1, m2⟩
      all_goals (
        go_enter Try.func34, Try.ntmps34
        go_wp2
        go_returns
        refine ⟨?_, rfl⟩
        first | rfl | (simp at m0 m1 m2; simp [mayN, m0, m1, m2])))
  · cases o
    all_goals (
      rcases hm with rfl | rfl | rfl | ⟨m0, m1, m2⟩
      all_goals (
        go_enter Try.func34, Try.ntmps34
        go_wp2
        go_returns
        refine ⟨?_, rfl⟩
        first | rfl | (simp at m0 m1 m2; simp [mayN, m0, m1, m2])))
  all_goals (
    rcases hm with rfl | rfl | rfl | ⟨m0, m1, m2⟩
    all_goals (
      go_enter Try.func34, Try.ntmps34
      go_wp2
      go_returns
      refine ⟨?_, rfl⟩
      first | rfl | (simp at m0 m1 m2; simp [mayN, m0, m1, m2])))
theorem may_any (p b : Nat) (L : Lay) (B : List UInt8) (o s : Bool) (mode r : Int) (w : World) (h : Im w p b L B o s) :
    Calls Try.prog 34 #[.pointer (some ⟨p, 0, none⟩), .int .i64 mode, .int .i64 r] w fun e w' => e = .returned (.int .i64 (mayN o s mode r)) ∧ w' = w := by
  by_cases h1 : r < 1
  · have hx : mayN o s mode r = 0 := if_pos (.inl h1)
    rw [hx]
    clear hx
    go_enter Try.func34, Try.ntmps34
    go_wp2
    go_returns
    exact ⟨rfl, rfl⟩
  · by_cases h2 : 5 < r
    · have hx : mayN o s mode r = 0 := if_pos (.inr h2)
      rw [hx]
      clear hx
      go_enter Try.func34, Try.ntmps34
      go_wp2
      go_returns
      exact ⟨rfl, rfl⟩
    · exact may_in p b L B o s mode r w h h1 h2
theorem may_are (o s : Bool) (mode r : Int) : mayN o s mode r = 0 ∨ mayN o s mode r = 1 ∨ mayN o s mode r = 3 := by
  unfold mayN
  repeat' split
  all_goals simp
theorem reg_le (L : Lay) (a : Int) : L.reg a ≤ 5 := by
  unfold Lay.reg
  repeat' split
  all_goals decide
theorem reg_in {L : Lay} (h : L.ok) (a : Int) (hr : L.reg a ≠ 0) : (L.beg (L.reg a) : Int) ≤ a ∧ a < L.beg (L.reg a + 1) ∧ L.beg (L.reg a + 1) ≤ L.b6 ∧ 0 ≤ a := by
  have m := Lay.mono h
  unfold Lay.reg at hr ⊢
  by_cases h0 : a < 0
  · rw [if_pos h0] at hr; exact absurd rfl hr
  · rw [if_neg h0] at hr ⊢
    by_cases h1 : a < L.b2
    · rw [if_pos h1]; simp only [Lay.beg]; omega
    · rw [if_neg h1] at hr ⊢
      by_cases h2 : a < L.b3
      · rw [if_pos h2]; simp only [Lay.beg]; omega
      · rw [if_neg h2] at hr ⊢
        by_cases h3 : a < L.b4
        · rw [if_pos h3]; simp only [Lay.beg]; omega
        · rw [if_neg h3] at hr ⊢
          by_cases h4 : a < L.b5
          · rw [if_pos h4]; simp only [Lay.beg]; omega
          · rw [if_neg h4] at hr ⊢
            by_cases h5 : a < L.b6
            · rw [if_pos h5]; simp only [Lay.beg]; omega
            · rw [if_neg h5] at hr; exact absurd rfl hr
theorem row_zero (p b : Nat) (L : Lay) (B : List UInt8) (o s : Bool) (mode a right : Int) (w : World) (h : Im w p b L B o s) :
    Calls Try.prog 71 #[.pointer (some ⟨p, 0, none⟩), .int .i64 mode, .int .i64 a, .int .i64 0, .int .i64 right] w fun e w' => e = .returned (.tuple #[.slice none 0 0, .bool true]) ∧ w' = w := by
  clear h
  go_enter Try.func71, Try.ntmps71
  go_wp2
  go_returns
  exact ⟨rfl, rfl⟩
set_option maxHeartbeats 1000000 in
theorem row_yes (p b : Nat) (L : Lay) (B : List UInt8) (o s : Bool) (mode a n right : Int) (w : World) (h : Im w p b L B o s) (hn : 0 < n) (hr : right = 1 ∨ right = 2) (hok : rowOk L o s mode a n right) :
    Calls Try.prog 71 #[.pointer (some ⟨p, 0, none⟩), .int .i64 mode, .int .i64 a, .int .i64 n, .int .i64 right] w fun e w' => e = .returned (.tuple #[.slice (some ⟨b, a.toNat, none⟩) n.toNat n.toNat, .bool true]) ∧ w' = w := by
  obtain ⟨k1, k2, k3⟩ := hok
  obtain ⟨r1, r2, r3, r4⟩ := reg_in h.ok a k1
  obtain ⟨a, rfl⟩ := Int.eq_ofNat_of_zero_le r4
  obtain ⟨n, rfl⟩ := Int.eq_ofNat_of_zero_le (Int.le_of_lt hn)
  have m := Lay.mono h.ok
  have hle := reg_le L a
  have hR := Lib.hid (region_any p b L B o s a w h)
  have hM := Lib.hid (fun r => may_any p b L B o s mode r w h)
  have sl := fun i hi => h.slot i hi
  have c12 := h.c12
  clear h
  generalize L.reg a = k at *
  have s1 := sl (k + 1) (by omega)
  clear sl
  obtain ⟨y, hy⟩ : ∃ y, L.beg (k + 1) = y := ⟨_, rfl⟩
  rw [hy] at s1 k2 r2 r3
  obtain ⟨x, hx⟩ : ∃ x, mayN o s mode k = x := ⟨_, rfl⟩
  rw [hx] at k3
  replace hy := Lib.hid hy
  replace hx := Lib.hid hx
  have q0 : ((n : Int) == 0) = false := by simp; omega
  have q1 : ((k : Int) == 0) = false := by simp; omega
  have j0 : (0 : Int) ≤ (k : Int) + 1 := by omega
  have j7 : (k : Int) + 1 < 7 := by omega
  have t1 : decide ((y : Int) - a < n) = false := by simp; omega
  have b1 : (bits BinOp.and IntKind.i64 3 1 == 0) = false := by decide
  have b2 : (bits BinOp.and IntKind.i64 3 2 == 0) = false := by decide
  have b3 : (bits BinOp.and IntKind.i64 1 1 == 0) = false := by decide
  have t2 : (a : Int) + n ≤ L.b6 := by omega
  have t3 : a + n ≤ L.b6 := by omega
  have t4 : ¬ a + n = a := by omega
  have t5 : a + n - a = n := by omega
  have k0 : k ≠ 0 := k1
  have k3' : (x = 3 ∧ right = 1) ∨ (x = 3 ∧ right = 2) ∨ (x = 1 ∧ right = 1) := by
    rcases k3 with e | ⟨e, f⟩
    · rcases hr with g | g
      · exact .inl ⟨e, g⟩
      · exact .inr (.inl ⟨e, g⟩)
    · exact .inr (.inr ⟨e, f⟩)
  clear k3 hr k1
  rcases k3' with ⟨rfl, rfl⟩ | ⟨rfl, rfl⟩ | ⟨rfl, rfl⟩
  all_goals (
    go_enter Try.func71, Try.ntmps71
    go_wp2_with (fail)
    refine hR.out.mono ?_
    rintro e w1 ⟨rfl, rfl⟩
    go_wp2_with (fail)
    refine (hM.out k).mono ?_
    rintro e w1 ⟨rfl, rfl⟩
    rw [hx.out]
    go_wp2_with (fail)
    go_returns
    refine ⟨?_, rfl⟩
    show Ending.returned (.tuple #[.slice (some ⟨b, a, none⟩) (a + n - a) (a + n - a), .bool true]) = _
    rw [t5]
    rfl)
set_option maxHeartbeats 1000000 in
theorem row_no (p b : Nat) (L : Lay) (B : List UInt8) (o s : Bool) (mode a n right : Int) (w : World) (h : Im w p b L B o s) (hn : 0 < n) (hn2 : n ≤ 9223372036854775807) (ha : -9223372036854775808 ≤ a ∧ a ≤ 9223372036854775807) (hr : right = 1 ∨ right = 2) (hok : ¬ rowOk L o s mode a n right) :
    Calls Try.prog 71 #[.pointer (some ⟨p, 0, none⟩), .int .i64 mode, .int .i64 a, .int .i64 n, .int .i64 right] w fun e w' => e = .returned (.tuple #[.slice none 0 0, .bool false]) ∧ w' = w := by
  have q0 : (n == 0) = false := by simp; omega
  have hR := Lib.hid (region_any p b L B o s a w h)
  have hM := Lib.hid (fun r => may_any p b L B o s mode r w h)
  by_cases k1 : L.reg a = 0
  · rw [k1] at hR
    clear h hok
    go_enter Try.func71, Try.ntmps71
    go_wp2_with (fail)
    refine hR.out.mono ?_
    rintro e w1 ⟨rfl, rfl⟩
    go_wp2_with (fail)
    go_returns
    exact ⟨rfl, rfl⟩
  · obtain ⟨r1, r2, r3, r4⟩ := reg_in h.ok a k1
    obtain ⟨a, rfl⟩ := Int.eq_ofNat_of_zero_le r4
    obtain ⟨n, rfl⟩ := Int.eq_ofNat_of_zero_le (Int.le_of_lt hn)
    have m := Lay.mono h.ok
    have hle := reg_le L a
    have sl := fun i hi => h.slot i hi
    unfold rowOk at hok
    clear h
    generalize L.reg a = k at *
    have s1 := sl (k + 1) (by omega)
    clear sl
    obtain ⟨y, hy⟩ : ∃ y, L.beg (k + 1) = y := ⟨_, rfl⟩
    rw [hy] at s1 hok r2 r3
    obtain ⟨x, hx⟩ : ∃ x, mayN o s mode k = x := ⟨_, rfl⟩
    have hxa := may_are o s mode k
    rw [hx] at hok hxa
    replace hy := Lib.hid hy
    replace hx := Lib.hid hx
    have q1 : ((k : Int) == 0) = false := by simp; omega
    have j0 : (0 : Int) ≤ (k : Int) + 1 := by omega
    have j7 : (k : Int) + 1 < 7 := by omega
    by_cases t1 : (n : Int) ≤ y - a
    · have t2 : decide ((y : Int) - a < n) = false := by simp; omega
      have hxr : (x = 0 ∧ right = 1) ∨ (x = 0 ∧ right = 2) ∨ (x = 1 ∧ right = 2) := by omega
      have b1 : (bits BinOp.and IntKind.i64 0 1 == 0) = true := by decide
      have b2 : (bits BinOp.and IntKind.i64 0 2 == 0) = true := by decide
      have b3 : (bits BinOp.and IntKind.i64 1 2 == 0) = true := by decide
      clear hok hr hxa t1
      rcases hxr with ⟨rfl, rfl⟩ | ⟨rfl, rfl⟩ | ⟨rfl, rfl⟩
      all_goals (
        go_enter Try.func71, Try.ntmps71
        go_wp2_with (fail)
        refine hR.out.mono ?_
        rintro e w1 ⟨rfl, rfl⟩
        go_wp2_with (fail)
        refine (hM.out k).mono ?_
        rintro e w1 ⟨rfl, rfl⟩
        rw [hx.out]
        go_wp2_with (fail)
        go_returns
        exact ⟨rfl, rfl⟩)
    · have t2 : decide ((y : Int) - a < n) = true := by simp; omega
      clear hok hxa
      go_enter Try.func71, Try.ntmps71
      go_wp2_with (fail)
      refine hR.out.mono ?_
      rintro e w1 ⟨rfl, rfl⟩
      go_wp2_with (fail)
      go_returns
      exact ⟨rfl, rfl⟩
end Go.Proofs.Ytoaiiimnfgbcaaa
