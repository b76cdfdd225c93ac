import Derived.Test.YtoaiiimnfgbcaaaRdB
namespace Go.Proofs.Ytoaiiimnfgbcaaa
open Go.RowKit
attribute [local go_sem] Oper.semAt_some
set_option linter.unusedVariables false
set_option linter.unusedSimpArgs false
/-! chapter 8: the document's Comma, Allot, Back -/
section
variable {W W' w : World} {q m g n : Nat} {B : List UInt8} {cl : Bool} {h l : Nat}
theorem rcm_full (D : Rd w q m g n B cl h l) (v : Int) (hh : g + n < h + 8) : Calls Try.prog 43 #[.pointer (some ⟨q, 0, none⟩), .int .i64 v] w fun e w' => e = .returned (.int .i64 9) ∧ ∃ k, w' = w.drewN k := by
  have hto := Lib.hid (fun k => rto_any (D.draws k))
  have c3 := D.c3
  have hfar := D.far
  have hn24 := D.n24
  obtain ⟨y, hy⟩ : ∃ y, g + n = y := ⟨_, rfl⟩
  have hy2 : (y : Int) ≤ 143360 := by omega
  have hy3 : (24 : Int) ≤ y := by omega
  rw [hy] at hto hh
  have i1 : (y : Int) - 8 < h := by omega
  clear D hy hh hfar hn24
  go_enter Try.func43, Try.ntmps43
  go_wp2_with (fail)
  go_quiet ((go_at_call 64; with_reducible exact Calls.quiet_of (hto.out _)))
  go_wp2_with (fail)
  go_returns
  exact ⟨rfl, _, rfl⟩
theorem rcm_bad (D : Rd w q m g n B cl h l) (v : Int) (hh : h + 8 ≤ g + n) (k : Int) (hk : (h % 8 ≠ 0 ∧ k = 6) ∨ (h % 8 = 0 ∧ cl = true ∧ k = 5)) : Calls Try.prog 43 #[.pointer (some ⟨q, 0, none⟩), .int .i64 v] w fun e w' => e = .returned (.int .i64 k) ∧ ∃ k, w' = w.drewN k := by
  have hto := Lib.hid (fun k => rto_any (D.draws k))
  have c3 := D.c3
  have hfar := D.far
  have hn24 := D.n24
  obtain ⟨y, hy⟩ : ∃ y, g + n = y := ⟨_, rfl⟩
  have hy2 : (y : Int) ≤ 143360 := by omega
  have hy3 : (24 : Int) ≤ y := by omega
  rw [hy] at hto hh
  have i1 : ¬ (y : Int) - 8 < h := by omega
  replace D := Lib.hid D
  clear hy hh hfar hn24
  rcases hk with ⟨h8, rfl⟩ | ⟨h8, rfl, rfl⟩
  · have e1 : ((h : Int) % 8 != 0) = true := by simp; omega
    clear h8
    go_enter Try.func43, Try.ntmps43
    go_wp2_with (fail)
    go_quiet ((go_at_call 64; with_reducible exact Calls.quiet_of (hto.out _)))
    have c4 := (D.out.draws nq).c3
    go_wp2_with (fail)
    go_returns
    exact ⟨rfl, _, rfl⟩
  · have e1 : ((h : Int) % 8 != 0) = false := by simp; omega
    clear h8
    go_enter Try.func43, Try.ntmps43
    go_wp2_with (fail)
    go_quiet ((go_at_call 64; with_reducible exact Calls.quiet_of (hto.out _)))
    have c4 := (D.out.draws nq).c3
    have c2 := (D.out.draws nq).c2
    go_wp2_with (fail)
    go_returns
    exact ⟨rfl, _, rfl⟩
theorem rcm_yes (D : Rd w q m g n B false h l) (v : Int) (hv : -9223372036854775808 ≤ v ∧ v ≤ 9223372036854775807) (hh : h + 8 ≤ g + n) (h8 : h % 8 = 0) : Calls Try.prog 43 #[.pointer (some ⟨q, 0, none⟩), .int .i64 v] w fun e w' => e = .returned (.int .i64 0) ∧ Rd w' q m g n (splice B h (by8 v)) false (h + 8) l ∧ Onb m q w w' := by
  have hl := fun k => rlay_any (D.draws k) v hv hh
  have hto := Lib.hid (fun k => rto_any (D.draws k))
  have c3 := D.c3
  have hfar := D.far
  have hn24 := D.n24
  obtain ⟨y, hy⟩ : ∃ y, g + n = y := ⟨_, rfl⟩
  have hy2 : (y : Int) ≤ 143360 := by omega
  have hy3 : (24 : Int) ≤ y := by omega
  rw [hy] at hto hh
  have i1 : ¬ (y : Int) - 8 < h := by omega
  replace D := Lib.hid D
  replace hl := Lib.hid hl
  have e1 : ((h : Int) % 8 != 0) = false := by simp; omega
  clear hy hh hfar hn24 h8
  go_enter Try.func43, Try.ntmps43
  go_wp2_with (fail)
  go_quiet ((go_at_call 64; with_reducible exact Calls.quiet_of (hto.out _)))
  have c4 := (D.out.draws nq).c3
  have c2 := (D.out.draws nq).c2
  go_wp2_with (fail)
  refine (hl.out _).mono ?_
  rintro e w1 ⟨rfl, D1, O1⟩
  have O1 := ((Onb.refl m q w).draws nq).trans O1
  replace D1 := Lib.hid D1
  replace O1 := Lib.hid O1
  go_wp2_with (fail)
  go_returns
  exact ⟨rfl, D1.out, O1.out⟩
/-! Allot -/
theorem rallot_full (D : Rd w q m g n B cl h l) (a : Int) (hn : a < ((g + 8 : Nat) : Int) - h ∨ ((g + n : Nat) : Int) - h < a) (hb : -9223372036854775808 ≤ a ∧ a ≤ 9223372036854775807) : Calls Try.prog 42 #[.pointer (some ⟨q, 0, none⟩), .int .i64 a] w fun e w' => e = .returned (.int .i64 9) ∧ ∃ k, w' = w.drewN k := by
  have hto := Lib.hid (fun k => rto_any (D.draws k))
  have c1 := D.c1
  have c3 := D.c3
  have hfar := D.far
  have hlo := D.lo
  have hhi := D.hi
  obtain ⟨y, hy⟩ : ∃ y, g + n = y := ⟨_, rfl⟩
  have hy2 : (y : Int) ≤ 143360 := by omega
  have hh2 : (h : Int) ≤ 143360 := by omega
  have hg2 : (g : Int) ≤ 143360 := by omega
  have hgh : (g : Int) + 8 ≤ h := by omega
  have hhy : (h : Int) ≤ y := by omega
  have wr1 : IntKind.i64.wrap ((g : Int) + 8) = (g : Int) + 8 := by rw [IntKind.wrap_i64]; omega
  have wr2 : IntKind.i64.wrap ((g : Int) + 8 - h) = (g : Int) + 8 - h := by rw [IntKind.wrap_i64]; omega
  have wr3 : IntKind.i64.wrap ((y : Int) - h) = (y : Int) - h := by rw [IntKind.wrap_i64]; omega
  by_cases h1 : a < (g : Int) + 8 - h
  · rw [hy] at hto
    clear D hy hfar hlo hhi hn
    go_enter Try.func42, Try.ntmps42
    go_wp2_with (fail)
    go_quiet ((go_at_call 64; with_reducible exact Calls.quiet_of (hto.out _)))
    go_wp2_with (fail)
    go_returns
    exact ⟨rfl, _, rfl⟩
  · have h2 : (y : Int) - h < a := by omega
    rw [hy] at hto
    clear D hy hfar hlo hhi hn
    go_enter Try.func42, Try.ntmps42
    go_wp2_with (fail)
    go_quiet ((go_at_call 64; with_reducible exact Calls.quiet_of (hto.out _)))
    go_wp2_with (fail)
    go_returns
    exact ⟨rfl, _, rfl⟩
theorem rallot_yes (D : Rd w q m g n B cl h l) (a : Int) (h1 : ((g + 8 : Nat) : Int) - h ≤ a) (h2 : a ≤ ((g + n : Nat) : Int) - h) : Calls Try.prog 42 #[.pointer (some ⟨q, 0, none⟩), .int .i64 a] w fun e w' => e = .returned (.int .i64 0) ∧ Rd w' q m g n B cl (h + a).toNat l ∧ Onb m q w w' := by
  have hto := Lib.hid (fun k => rto_any (D.draws k))
  have c1 := D.c1
  have c3 := D.c3
  have hfar := D.far
  have hlo := D.lo
  have hhi := D.hi
  obtain ⟨y, hy⟩ : ∃ y, g + n = y := ⟨_, rfl⟩
  have hy2 : (y : Int) ≤ 143360 := by omega
  have hh2 : (h : Int) ≤ 143360 := by omega
  have hg2 : (g : Int) ≤ 143360 := by omega
  have hgh : (g : Int) + 8 ≤ h := by omega
  have hhy : (h : Int) ≤ y := by omega
  have wr1 : IntKind.i64.wrap ((g : Int) + 8) = (g : Int) + 8 := by rw [IntKind.wrap_i64]; omega
  have wr2 : IntKind.i64.wrap ((g : Int) + 8 - h) = (g : Int) + 8 - h := by rw [IntKind.wrap_i64]; omega
  have wr3 : IntKind.i64.wrap ((y : Int) - h) = (y : Int) - h := by rw [IntKind.wrap_i64]; omega
  have i1 : ¬ a < (g : Int) + 8 - h := by omega
  have i2 : ¬ (y : Int) - h < a := by omega
  obtain ⟨t, ht⟩ : ∃ t : Nat, (h : Int) + a = t := ⟨(h + a).toNat, by omega⟩
  have ht2 : ((h : Int) + a).toNat = t := by omega
  have i3 : IntKind.i64.wrap ((h : Int) + a) = (t : Int) := by rw [IntKind.wrap_i64]; omega
  have hb : -9223372036854775808 ≤ a ∧ a ≤ 9223372036854775807 := by omega
  have ht3 : g + 8 ≤ t ∧ t ≤ g + n := by omega
  rw [hy] at hto
  rw [ht2]
  replace D := Lib.hid D
  replace ht3 := Lib.hid ht3
  replace ht := Lib.hid ht
  clear hy hfar hlo hhi h1 h2 ht2
  go_enter Try.func42, Try.ntmps42
  go_wp2_with (fail)
  go_quiet ((go_at_call 64; with_reducible exact Calls.quiet_of (hto.out _)))
  have D1 := D.out.draws nq
  have c5 := D1.c3
  have f5 := D1.bk.free 3
  have O1 := (Onb.refl m q w).draws nq
  replace D1 := Lib.hid D1
  replace O1 := Lib.hid O1
  go_wp2_with (fail)
  go_returns
  first | exact ⟨rfl, D1.out.put3 t ht3.out.1 ht3.out.2, O1.out.putd 3 _⟩
end
end Go.Proofs.Ytoaiiimnfgbcaaa
