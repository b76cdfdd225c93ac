import Derived.Test.YtoaiiimnfgbcaaaDcA
namespace Go.Proofs.Ytoaiiimnfgbcaaa
open Go.RowKit
set_option linter.unusedVariables false
set_option linter.unusedSimpArgs false
/-! CComma, Comma, Align, Allot, Back -/
section
variable {w : World} {d p b r f y h l : Nat} {L : Lay} {B : List UInt8} {o s : Bool}
theorem cc_full (D : Dc w d p b L r f y B o s h l) (c : Int) (hh : y ≤ h) : Calls Try.prog 28 #[.pointer (some ⟨d, 0, none⟩), .int .u8 c] w fun e w' => e = .returned (.int .i64 9) ∧ ∃ n, w' = w.drewN n := by
  have c0 := D.c0
  have c2 := D.c2
  have c3 := D.c3
  have hok := D.ok
  have hi := D.hi
  have i1 : (y : Int) ≤ 143360 := by omega
  have i2 : (y : Int) ≤ h := by omega
  clear D hok
  go_enter Try.func28, Try.ntmps28
  go_wp2_with (fail)
  go_quiet (fail)
  go_wp2_with (fail)
  go_returns
  exact ⟨rfl, _, rfl⟩
set_option maxHeartbeats 1000000 in
theorem cc_fence (D : Dc w d p b L r f y B o s h l) (c : Int) (hh : h < y) (hc : shut r s = true) : Calls Try.prog 28 #[.pointer (some ⟨d, 0, none⟩), .int .u8 c] w fun e w' => e = .returned (.int .i64 5) ∧ ∃ n, w' = w.drewN n := by
  have c0 := D.c0
  have c2 := D.c2
  have c3 := D.c3
  have hok := D.ok
  have hi := D.hi
  have i1 : (y : Int) ≤ 143360 := by omega
  have i2 : ¬ (y : Int) ≤ h := by omega
  have hS : ∀ W, Dc W d p b L r f y B o s h l → _ := fun W D => setbyte_no (mode := 0) D.im h c (by omega) (D.nwt hc h 1 (by have := D.lo; omega) hh)
  replace hS := Lib.hid hS
  replace D := Lib.hid D
  clear hok
  go_enter Try.func28, Try.ntmps28
  go_wp2_with (fail)
  go_quiet (fail)
  go_wp2_with (fail)
  obtain ⟨w1, hw1⟩ : ∃ w1, w.drewN nq = w1 := ⟨_, rfl⟩
  have D1 := D.out.draws nq
  rw [hw1] at D1 ⊢
  replace hw1 := Lib.hid hw1
  clear c0 c2 c3
  have c0 := D1.c0
  have c3 := D1.c3
  replace hS := Lib.hid (fun n => hS.out _ (D1.draws n))
  replace D1 := Lib.hid D1
  go_quiet ((go_at_call 54; with_reducible exact Calls.quiet_of_same (hS.out _)))
  go_wp2_with (fail)
  go_returns
  exact ⟨rfl, _, by rw [← hw1.out, World.drewN_drewN]⟩
set_option maxHeartbeats 1000000 in
theorem cc_yes (D : Dc w d p b L r f y B o s h l) (c : UInt8) (hh : h < y) (hc : shut r s = false) : Calls Try.prog 28 #[.pointer (some ⟨d, 0, none⟩), .int .u8 (c.toNat : Int)] w fun e w' => e = .returned (.int .i64 0) ∧ Dc w' d p b L r f y (B.set h c) o s (h + 1) l ∧ Onb b d w w' := by
  have c0 := D.c0
  have c2 := D.c2
  have c3 := D.c3
  have hok := D.ok
  have hi := D.hi
  have i1 : (y : Int) ≤ 143360 := by omega
  have i2 : ¬ (y : Int) ≤ h := by omega
  have hf : D.im.ok = D.im.ok := rfl
  have i3 : IntKind.i64.wrap ((h : Int) + 1) = ((h + 1 : Nat) : Int) := by rw [IntKind.wrap_i64]; omega
  have hrow := D.wt hc h 1 (by have := D.lo; omega) hh (by omega) 2
  have f3 := D.bk.free 3
  have hlo := D.lo
  clear hok hf
  replace D := Lib.hid D
  replace hrow := Lib.hid hrow
  go_enter Try.func28, Try.ntmps28
  go_wp2_with (fail)
  go_quiet (fail)
  go_wp2_with (fail)
  obtain ⟨w1, hw1⟩ : ∃ w1, w.drewN nq = w1 := ⟨_, rfl⟩
  have D1 := D.out.draws nq
  have hO1 : Onb b d w (w.drewN nq) := (Onb.refl b d w).draws nq
  rw [hw1] at D1 hO1 ⊢
  clear hw1 c0 c2 c3 f3
  have c0 := D1.c0
  have c3 := D1.c3
  have hS := setbyte_yes (mode := 0) D1.draw.im h c hrow.out
  replace hS := Lib.hid hS
  replace D1 := Lib.hid D1
  replace hO1 := Lib.hid hO1
  go_region_held3 (fun w' => w'.cell? ⟨d, 0, none⟩ = some (.pointer (some ⟨p, 0, none⟩)) ∧ w'.cell? ⟨d, 3, none⟩ = some (.int .i64 h)) (go_keep)
    ((go_at_call 54; (with_reducible refine Calls.mono hS.out ?_); rintro e w1_ ⟨rfl, hI, hO⟩; have D2 := D1.out.draw.turn hI hO; have kS : w1_.cell? ⟨d, 0, none⟩ = some (.pointer (some ⟨p, 0, none⟩)) ∧ w1_.cell? ⟨d, 3, none⟩ = some (.int .i64 h) := ⟨D2.c0, D2.c3⟩; replace hI := Lib.hid hI; replace hO := Lib.hid hO; replace D2 := Lib.hid D2))
  obtain ⟨w2, hw2⟩ : ∃ w2, w1_ = w2 := ⟨_, rfl⟩
  rw [hw2] at D2 hO ⊢
  rename_i hHeld_
  clear hHeld_ hw2 kS c0 c3 hS
  have c3 := D2.out.c3
  have f3 := D2.out.bk.free 3
  go_wp2_with (fail)
  go_returns
  exact ⟨rfl, D2.out.put3 (h + 1) (by omega) (by omega), hO1.out.draw.trans ((Onb.ofb hO.out).putd 3 _)⟩
/-! Comma -/
theorem cm_full (D : Dc w d p b L r f y B o s h l) (v : Int) (hh : y < h + 8) : Calls Try.prog 27 #[.pointer (some ⟨d, 0, none⟩), .int .i64 v] w fun e w' => e = .returned (.int .i64 9) ∧ ∃ n, w' = w.drewN n := by
  have c0 := D.c0
  have c2 := D.c2
  have c3 := D.c3
  have hok := D.ok
  have hi := D.hi
  have i1 : (y : Int) ≤ 143360 := by omega
  have i2 : (y : Int) - 8 < h := by omega
  have i3 : IntKind.i64.wrap ((y : Int) - 8) = y - 8 := by rw [IntKind.wrap_i64]; omega
  clear D hok
  go_enter Try.func27, Try.ntmps27
  go_wp2_with (fail)
  go_quiet (fail)
  go_wp2_with (fail)
  go_returns
  exact ⟨rfl, _, rfl⟩
set_option maxHeartbeats 1000000 in
theorem cm_bad (D : Dc w d p b L r f y B o s h l) (v : Int) (hh : h + 8 ≤ y) (k : Int) (hk : (h % 8 ≠ 0 ∧ k = 6) ∨ (h % 8 = 0 ∧ shut r s = true ∧ k = 5)) : Calls Try.prog 27 #[.pointer (some ⟨d, 0, none⟩), .int .i64 v] w fun e w' => e = .returned (.int .i64 k) ∧ ∃ n, w' = w.drewN n := by
  have c0 := D.c0
  have c2 := D.c2
  have c3 := D.c3
  have hok := D.ok
  have hi := D.hi
  have i1 : (y : Int) ≤ 143360 := by omega
  have i2 : ¬ (y : Int) - 8 < h := by omega
  have i3 : IntKind.i64.wrap ((y : Int) - 8) = y - 8 := by rw [IntKind.wrap_i64]; omega
  have hS : ∀ W, Dc W d p b L r f y B o s h l → Calls Try.prog 58 #[.pointer (some ⟨p, 0, none⟩), .int .i64 0, .int .i64 h, .int .i64 v] W fun e w' => e = .returned (.int .i64 k) ∧ w' = W := fun W D => by
    rcases hk with ⟨h8, rfl⟩ | ⟨h8, hc, rfl⟩
    · exact setcell_align (h : Int) v (by omega)
    · exact setcell_no (mode := 0) D.im h v (by omega) (by omega) (D.nwt8 hc h (by have := D.lo; omega) (by omega))
  have hk0 : (k == 0) = false := by rcases hk with ⟨_, rfl⟩ | ⟨_, _, rfl⟩ <;> rfl
  replace hS := Lib.hid hS
  replace D := Lib.hid D
  clear hok hk
  go_enter Try.func27, Try.ntmps27
  go_wp2_with (fail)
  go_quiet (fail)
  go_wp2_with (fail)
  obtain ⟨w1, hw1⟩ : ∃ w1, w.drewN nq = w1 := ⟨_, rfl⟩
  have D1 := D.out.draws nq
  rw [hw1] at D1 ⊢
  replace hw1 := Lib.hid hw1
  clear c0 c2 c3
  have c0 := D1.c0
  have c3 := D1.c3
  replace hS := Lib.hid (fun n => hS.out _ (D1.draws n))
  replace D1 := Lib.hid D1
  go_quiet ((go_at_call 58; with_reducible exact Calls.quiet_of_same (hS.out _)))
  go_wp2_with (fail)
  go_returns
  exact ⟨rfl, _, by rw [← hw1.out, World.drewN_drewN]⟩
set_option maxHeartbeats 1000000 in
theorem cm_yes (D : Dc w d p b L r f y B o s h l) (v : Int) (hh : h + 8 ≤ y) (h8 : h % 8 = 0) (hc : shut r s = false) : Calls Try.prog 27 #[.pointer (some ⟨d, 0, none⟩), .int .i64 v] w fun e w' => e = .returned (.int .i64 0) ∧ Dc w' d p b L r f y (splice B h (by8 v)) o s (h + 8) l ∧ Onb b d w w' := by
  have c0 := D.c0
  have c2 := D.c2
  have c3 := D.c3
  have hok := D.ok
  have hi := D.hi
  have i1 : (y : Int) ≤ 143360 := by omega
  have i2 : ¬ (y : Int) - 8 < h := by omega
  have i4 : IntKind.i64.wrap ((y : Int) - 8) = y - 8 := by rw [IntKind.wrap_i64]; omega
  have i3 : IntKind.i64.wrap ((h : Int) + 8) = ((h + 8 : Nat) : Int) := by rw [IntKind.wrap_i64]; omega
  have hrow := D.wt hc h 8 (by have := D.lo; omega) (by omega) (by omega) 2
  have hlo := D.lo
  clear hok
  replace D := Lib.hid D
  replace hrow := Lib.hid hrow
  go_enter Try.func27, Try.ntmps27
  go_wp2_with (fail)
  go_quiet (fail)
  go_wp2_with (fail)
  obtain ⟨w1, hw1⟩ : ∃ w1, w.drewN nq = w1 := ⟨_, rfl⟩
  have D1 := D.out.draws nq
  have hO1 : Onb b d w (w.drewN nq) := (Onb.refl b d w).draws nq
  rw [hw1] at D1 hO1 ⊢
  clear hw1 c0 c2 c3
  have c0 := D1.c0
  have c3 := D1.c3
  have hS := setcell_yes (mode := 0) D1.draw.im h v h8 hrow.out
  replace hS := Lib.hid hS
  replace D1 := Lib.hid D1
  replace hO1 := Lib.hid hO1
  go_region_held3 (fun w' => w'.cell? ⟨d, 0, none⟩ = some (.pointer (some ⟨p, 0, none⟩)) ∧ w'.cell? ⟨d, 3, none⟩ = some (.int .i64 h)) (go_keep)
    ((go_at_call 58; (with_reducible refine Calls.mono hS.out ?_); rintro e w1_ ⟨rfl, hI, hO⟩; have D2 := D1.out.draw.turn hI hO; have kS : w1_.cell? ⟨d, 0, none⟩ = some (.pointer (some ⟨p, 0, none⟩)) ∧ w1_.cell? ⟨d, 3, none⟩ = some (.int .i64 h) := ⟨D2.c0, D2.c3⟩; replace hI := Lib.hid hI; replace hO := Lib.hid hO; replace D2 := Lib.hid D2))
  obtain ⟨w2, hw2⟩ : ∃ w2, w1_ = w2 := ⟨_, rfl⟩
  rw [hw2] at D2 hO ⊢
  rename_i hHeld_
  clear hHeld_ hw2 kS c0 c3 hS
  have c3 := D2.out.c3
  have f3 := D2.out.bk.free 3
  go_wp2_with (fail)
  go_returns
  exact ⟨rfl, D2.out.put3 (h + 8) (by omega) (by omega), hO1.out.draw.trans ((Onb.ofb hO.out).putd 3 _)⟩
/-! Align -/
/-- noughts up to a multiple of eight -/
def fillN (B : List UInt8) (h : Nat) : Nat → List UInt8
  | 0 => B
  | n + 1 => fillN (B.set h 0) (h + 1) n
theorem al_zero (D : Dc w d p b L r f y B o s h l) (h8 : h % 8 = 0) : Calls Try.prog 29 #[.pointer (some ⟨d, 0, none⟩)] w fun e w' => e = .returned (.int .i64 0) ∧ w' = w := by
  have c3 := D.c3
  have e1 : ((h : Int) % 8 != 0) = false := by simp; omega
  clear D
  go_enter Try.func29, Try.ntmps29
  go_wp2_with (fail)
  go_loopw [3] (fun x wr => x = .int .i64 0 ∧ wr = w) (fun _ _ => 0)
  case atStart => exact ⟨rfl, rfl⟩
  case round =>
    obtain ⟨rfl, rfl⟩ := hrel
    go_wp2_with (fail)
    go_returns
    exact ⟨rfl, rfl⟩
theorem al_fence (D : Dc w d p b L r f y B o s h l) (h8 : ¬ h % 8 = 0) (hc : shut r s = true) : Calls Try.prog 29 #[.pointer (some ⟨d, 0, none⟩)] w fun e w' => e = .returned (.int .i64 5) ∧ ∃ n, w' = w.drewN n := by
  have c3 := D.c3
  have e1 : ((h : Int) % 8 != 0) = true := by simp; omega
  have hC := cc_fence D 0 (by have := D.hi; have := D.ok; omega) hc
  have hc3 : ∀ n, (w.drewN n).cell? ⟨d, 3, none⟩ = some (.int .i64 h) := fun n => c3
  replace hC := Lib.hid hC
  replace hc3 := Lib.hid hc3
  clear D
  go_enter Try.func29, Try.ntmps29
  go_wp2_with (fail)
  go_loopw [3] (fun x wr => (x = .int .i64 0 ∧ wr = w) ∨ (x = .int .i64 5 ∧ ∃ n, wr = w.drewN n)) (fun x _ => 5 - (intOf x).toNat)
  case atStart => exact .inl ⟨rfl, rfl⟩
  case round =>
    rcases hrel with ⟨rfl, rfl⟩ | ⟨rfl, n, hn⟩
    · go_wp2_with (fail)
      refine hC.out.mono ?_
      rintro e w1 ⟨rfl, n, hn⟩
      go_wp2_with (fail)
      exact ⟨.inr ⟨rfl, n, by first | rfl | exact hn⟩, by simp [intOf]⟩
    · have c4 : wr.cell? ⟨d, 3, none⟩ = some (.int .i64 h) := by rw [hn]; exact c3
      have HN : Hid (∃ n, wr = w.drewN n) := ⟨n, hn⟩
      clear hn
      go_wp2_with (fail)
      go_returns
      exact ⟨rfl, HN.out⟩
theorem fillN_snoc (n : Nat) : ∀ (B : List UInt8) (h : Nat), fillN B h (n + 1) = (fillN B h n).set (h + n) 0 := by
  induction n with
  | zero => intro B h; rfl
  | succ n ih =>
    intro B h
    rw [fillN, ih (B.set h 0) (h + 1), show h + 1 + n = h + (n + 1) by omega]
    rfl
theorem fillN_len (n : Nat) : ∀ (B : List UInt8) (h : Nat), (fillN B h n).length = B.length := by
  induction n with
  | zero => intro B h; rfl
  | succ n ih => intro B h; rw [fillN, ih, List.length_set]
set_option maxHeartbeats 1000000 in
theorem al_yes (D : Dc w d p b L r f y B o s h l) (hc : shut r s = false) : Calls Try.prog 29 #[.pointer (some ⟨d, 0, none⟩)] w fun e w' => e = .returned (.int .i64 0) ∧ Dc w' d p b L r f y (fillN B h (upN h - h)) o s (upN h) l ∧ Onb b d w w' := by
  have hu := upN_le h
  have hok := D.ok
  have hi := D.hi
  obtain ⟨m, hm⟩ : ∃ m, upN h - h = m := ⟨_, rfl⟩
  have hm2 : upN h = h + m := by omega
  rw [hm, hm2]
  have hy : h + m ≤ y := by unfold upN at hm2; omega
  have h8 : (h + m) % 8 = 0 := by omega
  have hmin : ∀ k, k < m → (h + k) % 8 ≠ 0 := fun k hk => by unfold upN at hm2; omega
  clear hu hm hm2
  replace D := Lib.hid D
  replace hok := Lib.hid hok
  replace hmin := Lib.hid hmin
  go_enter Try.func29, Try.ntmps29
  go_wp2_with (fail)
  go_loopw [3] (fun x wr => ∃ k, x = .int .i64 0 ∧ k ≤ m ∧ Dc wr d p b L r f y (fillN B h k) o s (h + k) l ∧ Onb b d w wr) (fun x wr => m + h - (intOf ((wr.cell? ⟨d, 3, none⟩).getD undef)).toNat)
  case atStart => exact ⟨0, rfl, by omega, D.out, Onb.refl _ _ _⟩
  case round =>
    obtain ⟨k, rfl, hk, D1, hO⟩ := hrel
    have c3 := D1.c3
    by_cases hkm : k < m
    · have e1 : (((h + k : Nat) : Int) % 8 != 0) = true := by have := hmin.out k hkm; simp; omega
      have hC := cc_yes D1 0 (by omega) hc
      obtain ⟨z, hz⟩ : ∃ z, h + k = z := ⟨_, rfl⟩
      rw [← fillN_snoc] at hC
      rw [hz] at c3 e1 hC
      replace hC := Lib.hid hC
      replace hO := Lib.hid hO
      replace hz := Lib.hid hz
      clear D1
      have c4 := c3
      go_wp2_with (fail)
      refine hC.out.mono ?_
      rintro e w1 ⟨rfl, D2, hO2⟩
      have c5 := D2.c3
      replace D2 := Lib.hid D2
      replace hO2 := Lib.hid hO2
      go_wp2_with (fail)
      refine ⟨⟨k + 1, rfl, by omega, ?_, hO.out.trans hO2.out⟩, ?_⟩
      · have := D2.out
        rw [show z + 1 = h + (k + 1) by have := hz.out; omega] at this
        exact this
      · have := hz.out
        rw [c5, c4]
        simp [intOf]
        omega
    · obtain rfl : k = m := by omega
      have e1 : (((h + k : Nat) : Int) % 8 != 0) = false := by simp; omega
      obtain ⟨z, hz⟩ : ∃ z, h + k = z := ⟨_, rfl⟩
      rw [hz] at c3 e1
      replace D1 := Lib.hid D1
      replace hO := Lib.hid hO
      clear h8 hy hz
      go_wp2_with (fail)
      go_returns
      exact ⟨rfl, D1.out, hO.out⟩
/-! Allot, Back -/
theorem allot_full (D : Dc w d p b L r f y B o s h l) (n : Int) (hn : n < (f : Int) - h ∨ (y : Int) - h < n) (hb : -9223372036854775808 ≤ n ∧ n ≤ 9223372036854775807) : Calls Try.prog 41 #[.pointer (some ⟨d, 0, none⟩), .int .i64 n] w fun e w' => e = .returned (.int .i64 9) ∧ ∃ m, w' = w.drewN m := by
  have c1 := D.c1
  have c2 := D.c2
  have c3 := D.c3
  have hok := D.ok
  have hi := D.hi
  have e1 : IntKind.i64.wrap ((f : Int) - h) = f - h := by rw [IntKind.wrap_i64]; omega
  have e2 : IntKind.i64.wrap ((y : Int) - h) = y - h := by rw [IntKind.wrap_i64]; omega
  clear D hok
  by_cases h1 : n < (f : Int) - h
  · clear hn
    go_enter Try.func41, Try.ntmps41
    go_wp2_with (fail)
    go_quiet (fail)
    go_wp2_with (fail)
    go_returns
    exact ⟨rfl, _, rfl⟩
  · have h2 : (y : Int) - h < n := by omega
    have h3 : (f : Int) - h ≤ n := by omega
    clear hn h1
    go_enter Try.func41, Try.ntmps41
    go_wp2_with (fail)
    go_quiet (fail)
    go_wp2_with (fail)
    go_returns
    exact ⟨rfl, _, rfl⟩
theorem allot_yes (D : Dc w d p b L r f y B o s h l) (n : Int) (h1 : (f : Int) - h ≤ n) (h2 : n ≤ (y : Int) - h) : Calls Try.prog 41 #[.pointer (some ⟨d, 0, none⟩), .int .i64 n] w fun e w' => e = .returned (.int .i64 0) ∧ Dc w' d p b L r f y B o s (h + n).toNat l ∧ Onb b d w w' := by
  have c1 := D.c1
  have c2 := D.c2
  have c3 := D.c3
  have hok := D.ok
  have hi := D.hi
  have hlo := D.lo
  have e1 : IntKind.i64.wrap ((f : Int) - h) = f - h := by rw [IntKind.wrap_i64]; omega
  have e2 : IntKind.i64.wrap ((y : Int) - h) = y - h := by rw [IntKind.wrap_i64]; omega
  have e3 : IntKind.i64.wrap ((h : Int) + n) = ((h + n).toNat : Int) := by rw [IntKind.wrap_i64]; omega
  have f3 := D.bk.free 3
  replace D := Lib.hid D
  replace hok := Lib.hid hok
  obtain ⟨h', hh'⟩ : ∃ h', ((h : Int) + n).toNat = h' := ⟨_, rfl⟩
  rw [hh'] at e3 ⊢
  have q1 : f ≤ h' ∧ h' ≤ y := by omega
  replace q1 := Lib.hid q1
  clear hh'
  go_enter Try.func41, Try.ntmps41
  go_wp2_with (fail)
  go_quiet (fail)
  go_wp2_with (fail)
  go_returns
  exact ⟨rfl, (D.out.draws nq).put3 h' q1.out.1 q1.out.2, ((Onb.refl b d w).draws nq).putd 3 _⟩
/-- may it go back to that? -/
def backOk (f y : Nat) (a c : Int) : Prop := (f : Int) ≤ a ∧ a ≤ y ∧ (c = 0 ∨ c % 8 = 0 ∧ (f : Int) ≤ c ∧ c < y)
instance (f y : Nat) (a c : Int) : Decidable (backOk f y a c) := by unfold backOk; exact inferInstance
theorem back_bad (D : Dc w d p b L r f y B o s h l) (a c : Int) (hb : ¬ backOk f y a c) : Calls Try.prog 17 #[.pointer (some ⟨d, 0, none⟩), .int .i64 a, .int .i64 c] w fun e w' => e = .returned (.int .i64 1) ∧ ∃ m, w' = w.drewN m := by
  have c1 := D.c1
  have c2 := D.c2
  clear D
  unfold backOk at hb
  by_cases h1 : a < (f : Int)
  · clear hb
    go_enter Try.func17, Try.ntmps17
    go_wp2_with (fail)
    go_returns
    exact ⟨rfl, 0, rfl⟩
  · by_cases h2 : (y : Int) < a
    · have h3 : (f : Int) ≤ a := by omega
      clear hb h1
      go_enter Try.func17, Try.ntmps17
      go_wp2_with (fail)
      go_returns
      exact ⟨rfl, 0, rfl⟩
    · have h3 : ¬ a < (f : Int) := h1
      have h4 : ¬ (y : Int) < a := h2
      have z0 : (c != 0) = true := by
        have : c ≠ 0 := fun e => hb ⟨by omega, by omega, .inl e⟩
        simpa using this
      by_cases h8 : c % 8 = 0
      · have z8 : (c.tmod 8 != 0) = false := tmod_even c h8
        have y8 : (c % 8 != 0) = false := by simpa using h8
        by_cases h5 : c < (f : Int)
        · clear hb h8
          go_enter Try.func17, Try.ntmps17
          go_wp2_with (fail)
          go_returns
          exact ⟨rfl, 0, rfl⟩
        · have h6 : (y : Int) ≤ c := by
            by_cases h7 : (y : Int) ≤ c
            · exact h7
            · exact absurd ⟨by omega, by omega, .inr ⟨h8, by omega, by omega⟩⟩ hb
          have h7 : ¬ c < (f : Int) := h5
          clear hb h8
          go_enter Try.func17, Try.ntmps17
          go_wp2_with (fail)
          go_returns
          exact ⟨rfl, 0, rfl⟩
      · have z8 : (c.tmod 8 != 0) = true := by
          have : ¬ c.tmod 8 = 0 := fun e => h8 ((tmod_zero c).1 e)
          simpa using this
        have y8 : (c % 8 != 0) = true := by simpa using h8
        clear hb h8
        go_enter Try.func17, Try.ntmps17
        go_wp2_with (fail)
        go_returns
        exact ⟨rfl, 0, rfl⟩
theorem back_yes (D : Dc w d p b L r f y B o s h l) (a c : Int) (hb : backOk f y a c) : Calls Try.prog 17 #[.pointer (some ⟨d, 0, none⟩), .int .i64 a, .int .i64 c] w fun e w' => e = .returned (.int .i64 0) ∧ Dc w' d p b L r f y B o s a.toNat c.toNat ∧ Onb b d w w' := by
  have c1 := D.c1
  have c2 := D.c2
  have c3 := D.c3
  have c4 := D.c4
  have f3 := D.bk.free 3
  have f4 := D.bk.free 4
  have hok := D.ok
  obtain ⟨b1, b2, b3⟩ := hb
  obtain ⟨a', rfl⟩ : ∃ a' : Nat, a = a' := ⟨a.toNat, by omega⟩
  obtain ⟨c', rfl⟩ : ∃ c' : Nat, c = c' := ⟨c.toNat, by rcases b3 with h | ⟨_, h, _⟩ <;> omega⟩
  simp only [Int.toNat_natCast]
  have hc : c' = 0 ∨ f ≤ c' ∧ c' < y ∧ c' % 8 = 0 := by rcases b3 with h | ⟨_, h, _⟩ <;> omega
  have h1 : ¬ (a' : Int) < f := by omega
  have h2 : ¬ (y : Int) < a' := by omega
  have g1 : f ≤ a' ∧ a' ≤ y := by omega
  replace D := Lib.hid D
  replace hok := Lib.hid hok
  replace g1 := Lib.hid g1
  replace hc := Lib.hid hc
  clear b1 b2
  rcases b3 with h0 | ⟨h8, h5, h6⟩
  · obtain rfl : c' = 0 := by omega
    clear h0
    go_enter Try.func17, Try.ntmps17
    go_wp2_with (fail)
    go_returns
    exact ⟨rfl, (D.out.put3 a' g1.out.1 g1.out.2).put4 0 (.inl rfl), ((Onb.refl b d w).putd 3 _).putd 4 _⟩
  · have z0 : ((c' : Int) != 0) = true := by have := hok.out; simp; omega
    have z8 : ((c' : Int) % 8 != 0) = false := by simp; omega
    have h7 : ¬ (c' : Int) < f := by omega
    have h9 : ¬ (y : Int) ≤ c' := by omega
    clear h5 h6 h8
    go_enter Try.func17, Try.ntmps17
    go_wp2_with (fail)
    go_returns
    exact ⟨rfl, (D.out.put3 a' g1.out.1 g1.out.2).put4 c' hc.out, ((Onb.refl b d w).putd 3 _).putd 4 _⟩
end
end Go.Proofs.Ytoaiiimnfgbcaaa
