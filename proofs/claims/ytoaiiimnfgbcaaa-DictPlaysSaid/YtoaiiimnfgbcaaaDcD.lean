import Derived.Test.YtoaiiimnfgbcaaaDcC
namespace Go.Proofs.Ytoaiiimnfgbcaaa
open Go.RowKit
set_option linter.unusedVariables false
set_option linter.unusedSimpArgs false
/-! marks: Show, Immediate, Inline -/
theorem u8_show (c : UInt8) : bits BinOp.andNot IntKind.u8 (c.toNat : Int) 32 = ((c &&& 223).toNat : Int) := by
  have h : ∀ n : Fin 256, bits BinOp.andNot IntKind.u8 ((UInt8.ofNat n.val).toNat : Int) 32 = (((UInt8.ofNat n.val) &&& 223).toNat : Int) := by decide +kernel
  have := h ⟨c.toNat, c.toNat_lt⟩
  simpa using this
theorem u8_imm (c : UInt8) : bits BinOp.or IntKind.u8 (c.toNat : Int) 64 = ((c ||| 64).toNat : Int) := by
  have h : ∀ n : Fin 256, bits BinOp.or IntKind.u8 ((UInt8.ofNat n.val).toNat : Int) 64 = (((UInt8.ofNat n.val) ||| 64).toNat : Int) := by decide +kernel
  have := h ⟨c.toNat, c.toNat_lt⟩
  simpa using this
theorem u8_inl (c : UInt8) : bits BinOp.or IntKind.u8 (c.toNat : Int) 128 = ((c ||| 128).toNat : Int) := by
  have h : ∀ n : Fin 256, bits BinOp.or IntKind.u8 ((UInt8.ofNat n.val).toNat : Int) 128 = (((UInt8.ofNat n.val) ||| 128).toNat : Int) := by decide +kernel
  have := h ⟨c.toNat, c.toNat_lt⟩
  simpa using this
/-- which bits: 0 Show, 1 Immediate, 2 Inline -/
def mkU (k : Nat) (c : UInt8) : UInt8 := match k with
  | 0 => c &&& 223
  | 1 => c ||| 64
  | _ => c ||| 128
/-- the head's byte turned -/
def mkB (k y l : Nat) (cl : Bool) (B : List UInt8) : List UInt8 := if l = 0 ∨ cl = true ∨ y ≤ l + 8 then B else B.set (l + 8) (mkU k (B.getD (l + 8) 0))
theorem cls_0 (c : UInt8) (w : World) : Calls Try.prog 39 #[.int .u8 (c.toNat : Int)] w fun e w' => e = .returned (.int .u8 ((mkU 0 c).toNat : Int)) ∧ w' = w := by
  have h1 := u8_show c
  have h2 := u8_imm c
  have h3 := u8_inl c
  unfold mkU
  go_enter Try.func39, Try.ntmps39
  go_wp2_with (fail)
  go_returns
  exact ⟨rfl, rfl⟩
theorem cls_1 (c : UInt8) (w : World) : Calls Try.prog 68 #[.int .u8 (c.toNat : Int)] w fun e w' => e = .returned (.int .u8 ((mkU 1 c).toNat : Int)) ∧ w' = w := by
  have h1 := u8_show c
  have h2 := u8_imm c
  have h3 := u8_inl c
  unfold mkU
  go_enter Try.func68, Try.ntmps68
  go_wp2_with (fail)
  go_returns
  exact ⟨rfl, rfl⟩
theorem cls_2 (c : UInt8) (w : World) : Calls Try.prog 69 #[.int .u8 (c.toNat : Int)] w fun e w' => e = .returned (.int .u8 ((mkU 2 c).toNat : Int)) ∧ w' = w := by
  have h1 := u8_show c
  have h2 := u8_imm c
  have h3 := u8_inl c
  unfold mkU
  go_enter Try.func69, Try.ntmps69
  go_wp2_with (fail)
  go_returns
  exact ⟨rfl, rfl⟩
section
variable {w : World} {d p b r f y h l : Nat} {L : Lay} {B : List UInt8} {o s : Bool}
theorem mk_zero (D : Dc w d p b L r f y B o s h l) (g : Nat) (hl : l = 0) : Calls Try.prog 38 #[.pointer (some ⟨d, 0, none⟩), .func (.func g) #[] #[]] w fun e w' => e = .returned (.tuple #[]) ∧ w' = w := by
  have c4 := D.c4
  subst hl
  clear D
  go_enter Try.func38, Try.ntmps38
  go_wp2_with (fail)
  go_returns
  exact ⟨rfl, rfl⟩
theorem byte_some (I : Im w p b L B o s) (a : Nat) (ha : a ≤ 200000) : ∃ v k : Int, ∀ n, Calls Try.prog 63 #[.pointer (some ⟨p, 0, none⟩), .int .i64 0, .int .i64 (a : Int)] (w.drewN n) fun e w' => e = .returned (.tuple #[.int .u8 v, .int .i64 k]) ∧ w' = w.drewN n := by
  by_cases hok : rowOk L o s 0 a 1 1
  · exact ⟨_, _, fun n => byte_yes (I.draws n) a _ hok rfl⟩
  · exact ⟨_, _, fun n => byte_no (I.draws n) a (by omega) hok⟩
set_option maxHeartbeats 1000000 in
theorem mk_far (D : Dc w d p b L r f y B o s h l) (g : Nat) (hl : l ≠ 0) (hy : y ≤ l + 8) : Calls Try.prog 38 #[.pointer (some ⟨d, 0, none⟩), .func (.func g) #[] #[]] w fun e w' => e = .returned (.tuple #[]) ∧ ∃ n, w' = w.drewN n := by
  have hok := D.ok
  have c0 := D.c0
  have c2 := D.c2
  have c4 := D.c4
  have hla := D.la
  have z0 : ((l : Int) == 0) = false := by simp; omega
  obtain ⟨q, hq⟩ : ∃ q, l + 8 = q := ⟨_, rfl⟩
  have e8 : IntKind.i64.wrap ((l : Int) + 8) = (q : Int) := by rw [IntKind.wrap_i64]; omega
  obtain ⟨v, k, hB⟩ := byte_some D.im q (by omega)
  have i1 : ¬ (q : Int) < y := by omega
  replace hB := Lib.hid hB
  clear D hla hl hy hq
  go_enter Try.func38, Try.ntmps38
  go_wp2_with (fail)
  go_quiet ((go_at_call 63; with_reducible exact Calls.quiet_of_same (hB.out _)))
  go_wp2_with (fail)
  cases hk : (k == 0)
  · go_quiet (fail)
    go_wp2_with (fail)
    go_returns
    exact ⟨rfl, _, by first | rfl | rw [World.drewN_drewN]⟩
  · go_quiet (fail)
    go_wp2_with (fail)
    go_returns
    exact ⟨rfl, _, by first | rfl | rw [World.drewN_drewN]⟩
set_option maxHeartbeats 2000000 in
theorem mk_in0 (D : Dc w d p b L r f y B o s h l) (hl : l ≠ 0) (hy : ¬ y ≤ l + 8) : Calls Try.prog 38 #[.pointer (some ⟨d, 0, none⟩), .func (.func 39) #[] #[]] w fun e w' => e = .returned (.tuple #[]) ∧ Dc w' d p b L r f y (mkB 0 y l (shut r s) B) o s h l ∧ Onb b d w w' := by
  have hok := D.ok
  have c0 := D.c0
  have c2 := D.c2
  have c4 := D.c4
  have hla := D.la
  have z0 : ((l : Int) == 0) = false := by simp; omega
  obtain ⟨q, hq⟩ : ∃ q, l + 8 = q := ⟨_, rfl⟩
  have e8 : IntKind.i64.wrap ((l : Int) + 8) = (q : Int) := by rw [IntKind.wrap_i64]; omega
  have hB := fun W (D : Dc W d p b L r f y B o s h l) => byte_yes (mode := 0) D.im q _ (D.rd q 1 (by omega) (by omega) (by omega)) rfl
  have i1 : (q : Int) < y := by omega
  have q0 := fun n => hB _ (D.draws n)
  obtain ⟨c, hc⟩ : ∃ c, B.getD q 0 = c := ⟨_, rfl⟩
  rw [hc] at q0
  replace q0 := Lib.hid q0
  have hmf := cls_0 c
  obtain ⟨c2', hc2'⟩ : ∃ c2, mkU 0 c = c2 := ⟨_, rfl⟩
  rw [hc2'] at hmf
  have hmk : shut r s = false → mkB 0 y l (shut r s) B = B.set q c2' := fun h => by
    unfold mkB
    rw [if_neg (by rw [h]; simp; omega), hq, hc, hc2']
  have hmk2 : shut r s = true → mkB 0 y l (shut r s) B = B := fun h => by
    unfold mkB
    rw [if_pos (by simp [h])]
  have hWt : shut r s = false → rowOk L o s 0 q 1 2 := fun h => D.wt h q 1 (by omega) (by omega) (by omega) 2
  have hNw : shut r s = true → ¬ rowOk L o s 0 q 1 2 := fun h => D.nwt h q 1 (by omega) (by omega)
  replace hmf := Lib.hid hmf
  replace hmk := Lib.hid hmk
  replace hmk2 := Lib.hid hmk2
  replace hWt := Lib.hid hWt
  replace hNw := Lib.hid hNw
  replace D := Lib.hid D
  clear hB hc hc2' hq hok hla hl hy
  go_enter Try.func38, Try.ntmps38
  go_wp2_with (fail)
  go_quiet ((go_at_call 63; with_reducible exact Calls.quiet_of_same (q0.out _)))
  go_wp2_with (fail)
  go_quiet (fail)
  go_wp2_with (fail)
  rename_i nn
  obtain ⟨w1, hw1⟩ : ∃ w1, (w.drewN nn).drewN nq = w1 := ⟨_, rfl⟩
  have D1 := (D.out.draws nn).draws nq
  have O1 : Onb b d w ((w.drewN nn).drewN nq) := ((Onb.refl b d w).draws _).draws _
  rw [hw1] at D1 O1 ⊢
  clear hw1 c0 c2 c4 q0
  have c0 := D1.c0
  have c4 := D1.c4
  replace O1 := Lib.hid O1
  cases hsh : shut r s
  · have hS := setbyte_yes (mode := 0) D1.draw.im q c2' (hWt.out hsh)
    replace hS := Lib.hid hS
    replace D1 := Lib.hid D1
    go_region_held3 (fun w' => w'.cell? ⟨d, 0, none⟩ = some (.pointer (some ⟨p, 0, none⟩)) ∧ w'.cell? ⟨d, 4, none⟩ = some (.int .i64 l)) (go_keep)
      ((first | (go_at_call 39; refine Calls.mono (hmf.out _) ?_; rintro e w_ ⟨rfl, hw_⟩; have kS : w_.cell? ⟨d, 0, none⟩ = some (.pointer (some ⟨p, 0, none⟩)) ∧ w_.cell? ⟨d, 4, none⟩ = some (.int .i64 l) := by { rw [hw_]; assumption }; replace hw_ := hw_.symm; subst hw_) | (go_at_call 54; (with_reducible refine Calls.mono hS.out ?_); rintro e w1_ ⟨rfl, hI, hO⟩; have D2 := D1.out.draw.turn hI hO; have kS : w1_.cell? ⟨d, 0, none⟩ = some (.pointer (some ⟨p, 0, none⟩)) ∧ w1_.cell? ⟨d, 4, none⟩ = some (.int .i64 l) := ⟨D2.c0, D2.c4⟩; replace hO := Lib.hid hO; replace D2 := Lib.hid D2)))
    rename_i hHeld_
    clear hHeld_ kS
    go_wp2_with (fail)
    go_returns
    refine ⟨rfl, ?_, O1.out.draw.trans (Onb.ofb hO.out)⟩
    rw [hmk.out hsh]
    exact D2.out
  · have hS := fun W (D : Dc W d p b L r f y B o s h l) => setbyte_no (mode := 0) D.im q (c2'.toNat : Int) (by have := D.ok; omega) (hNw.out hsh)
    have hS1 := fun n => hS _ (D1.draws n)
    replace hS1 := Lib.hid hS1
    replace D1 := Lib.hid D1
    clear hS
    go_quiet ((first | (go_at_call 39; with_reducible exact Calls.quiet_of_same (hmf.out _)) | (go_at_call 54; with_reducible exact Calls.quiet_of_same (hS1.out _))))
    go_wp2_with (fail)
    go_returns
    refine ⟨rfl, ?_, O1.out.draws _⟩
    rw [hmk2.out hsh]
    exact D1.out.draws _
theorem flag_0 (D : Dc w d p b L r f y B o s h l) : Calls Try.prog 16 #[.pointer (some ⟨d, 0, none⟩)] w fun e w' => e = .returned (.tuple #[]) ∧ Dc w' d p b L r f y (mkB 0 y l (shut r s) B) o s h l ∧ Onb b d w w' := by
  have hM : Calls Try.prog 38 #[.pointer (some ⟨d, 0, none⟩), .func (.func 39) #[] #[]] w fun e w' => e = .returned (.tuple #[]) ∧ Dc w' d p b L r f y (mkB 0 y l (shut r s) B) o s h l ∧ Onb b d w w' := by
    by_cases hl : l = 0
    · refine (mk_zero D _ hl).mono ?_
      rintro e w' ⟨rfl, rfl⟩
      exact ⟨rfl, by unfold mkB; rw [if_pos (.inl hl)]; exact D, Onb.refl _ _ _⟩
    · by_cases hy : y ≤ l + 8
      · refine (mk_far D _ hl hy).mono ?_
        rintro e w' ⟨rfl, n, rfl⟩
        exact ⟨rfl, by unfold mkB; rw [if_pos (.inr (.inr hy))]; exact D.draws n, (Onb.refl _ _ _).draws n⟩
      · exact mk_in0 D hl hy
  clear D
  go_enter Try.func16, Try.ntmps16
  go_wp2_with (fail)
  refine hM.mono ?_
  rintro e w1 ⟨rfl, h1⟩
  go_wp2_with (fail)
  go_returns
  exact ⟨rfl, h1⟩
set_option maxHeartbeats 2000000 in
theorem mk_in1 (D : Dc w d p b L r f y B o s h l) (hl : l ≠ 0) (hy : ¬ y ≤ l + 8) : Calls Try.prog 38 #[.pointer (some ⟨d, 0, none⟩), .func (.func 68) #[] #[]] w fun e w' => e = .returned (.tuple #[]) ∧ Dc w' d p b L r f y (mkB 1 y l (shut r s) B) o s h l ∧ Onb b d w w' := by
  have hok := D.ok
  have c0 := D.c0
  have c2 := D.c2
  have c4 := D.c4
  have hla := D.la
  have z0 : ((l : Int) == 0) = false := by simp; omega
  obtain ⟨q, hq⟩ : ∃ q, l + 8 = q := ⟨_, rfl⟩
  have e8 : IntKind.i64.wrap ((l : Int) + 8) = (q : Int) := by rw [IntKind.wrap_i64]; omega
  have hB := fun W (D : Dc W d p b L r f y B o s h l) => byte_yes (mode := 0) D.im q _ (D.rd q 1 (by omega) (by omega) (by omega)) rfl
  have i1 : (q : Int) < y := by omega
  have q0 := fun n => hB _ (D.draws n)
  obtain ⟨c, hc⟩ : ∃ c, B.getD q 0 = c := ⟨_, rfl⟩
  rw [hc] at q0
  replace q0 := Lib.hid q0
  have hmf := cls_1 c
  obtain ⟨c2', hc2'⟩ : ∃ c2, mkU 1 c = c2 := ⟨_, rfl⟩
  rw [hc2'] at hmf
  have hmk : shut r s = false → mkB 1 y l (shut r s) B = B.set q c2' := fun h => by
    unfold mkB
    rw [if_neg (by rw [h]; simp; omega), hq, hc, hc2']
  have hmk2 : shut r s = true → mkB 1 y l (shut r s) B = B := fun h => by
    unfold mkB
    rw [if_pos (by simp [h])]
  have hWt : shut r s = false → rowOk L o s 0 q 1 2 := fun h => D.wt h q 1 (by omega) (by omega) (by omega) 2
  have hNw : shut r s = true → ¬ rowOk L o s 0 q 1 2 := fun h => D.nwt h q 1 (by omega) (by omega)
  replace hmf := Lib.hid hmf
  replace hmk := Lib.hid hmk
  replace hmk2 := Lib.hid hmk2
  replace hWt := Lib.hid hWt
  replace hNw := Lib.hid hNw
  replace D := Lib.hid D
  clear hB hc hc2' hq hok hla hl hy
  go_enter Try.func38, Try.ntmps38
  go_wp2_with (fail)
  go_quiet ((go_at_call 63; with_reducible exact Calls.quiet_of_same (q0.out _)))
  go_wp2_with (fail)
  go_quiet (fail)
  go_wp2_with (fail)
  rename_i nn
  obtain ⟨w1, hw1⟩ : ∃ w1, (w.drewN nn).drewN nq = w1 := ⟨_, rfl⟩
  have D1 := (D.out.draws nn).draws nq
  have O1 : Onb b d w ((w.drewN nn).drewN nq) := ((Onb.refl b d w).draws _).draws _
  rw [hw1] at D1 O1 ⊢
  clear hw1 c0 c2 c4 q0
  have c0 := D1.c0
  have c4 := D1.c4
  replace O1 := Lib.hid O1
  cases hsh : shut r s
  · have hS := setbyte_yes (mode := 0) D1.draw.im q c2' (hWt.out hsh)
    replace hS := Lib.hid hS
    replace D1 := Lib.hid D1
    go_region_held3 (fun w' => w'.cell? ⟨d, 0, none⟩ = some (.pointer (some ⟨p, 0, none⟩)) ∧ w'.cell? ⟨d, 4, none⟩ = some (.int .i64 l)) (go_keep)
      ((first | (go_at_call 68; refine Calls.mono (hmf.out _) ?_; rintro e w_ ⟨rfl, hw_⟩; have kS : w_.cell? ⟨d, 0, none⟩ = some (.pointer (some ⟨p, 0, none⟩)) ∧ w_.cell? ⟨d, 4, none⟩ = some (.int .i64 l) := by { rw [hw_]; assumption }; replace hw_ := hw_.symm; subst hw_) | (go_at_call 54; (with_reducible refine Calls.mono hS.out ?_); rintro e w1_ ⟨rfl, hI, hO⟩; have D2 := D1.out.draw.turn hI hO; have kS : w1_.cell? ⟨d, 0, none⟩ = some (.pointer (some ⟨p, 0, none⟩)) ∧ w1_.cell? ⟨d, 4, none⟩ = some (.int .i64 l) := ⟨D2.c0, D2.c4⟩; replace hO := Lib.hid hO; replace D2 := Lib.hid D2)))
    rename_i hHeld_
    clear hHeld_ kS
    go_wp2_with (fail)
    go_returns
    refine ⟨rfl, ?_, O1.out.draw.trans (Onb.ofb hO.out)⟩
    rw [hmk.out hsh]
    exact D2.out
  · have hS := fun W (D : Dc W d p b L r f y B o s h l) => setbyte_no (mode := 0) D.im q (c2'.toNat : Int) (by have := D.ok; omega) (hNw.out hsh)
    have hS1 := fun n => hS _ (D1.draws n)
    replace hS1 := Lib.hid hS1
    replace D1 := Lib.hid D1
    clear hS
    go_quiet ((first | (go_at_call 68; with_reducible exact Calls.quiet_of_same (hmf.out _)) | (go_at_call 54; with_reducible exact Calls.quiet_of_same (hS1.out _))))
    go_wp2_with (fail)
    go_returns
    refine ⟨rfl, ?_, O1.out.draws _⟩
    rw [hmk2.out hsh]
    exact D1.out.draws _
theorem flag_1 (D : Dc w d p b L r f y B o s h l) : Calls Try.prog 48 #[.pointer (some ⟨d, 0, none⟩)] w fun e w' => e = .returned (.tuple #[]) ∧ Dc w' d p b L r f y (mkB 1 y l (shut r s) B) o s h l ∧ Onb b d w w' := by
  have hM : Calls Try.prog 38 #[.pointer (some ⟨d, 0, none⟩), .func (.func 68) #[] #[]] w fun e w' => e = .returned (.tuple #[]) ∧ Dc w' d p b L r f y (mkB 1 y l (shut r s) B) o s h l ∧ Onb b d w w' := by
    by_cases hl : l = 0
    · refine (mk_zero D _ hl).mono ?_
      rintro e w' ⟨rfl, rfl⟩
      exact ⟨rfl, by unfold mkB; rw [if_pos (.inl hl)]; exact D, Onb.refl _ _ _⟩
    · by_cases hy : y ≤ l + 8
      · refine (mk_far D _ hl hy).mono ?_
        rintro e w' ⟨rfl, n, rfl⟩
        exact ⟨rfl, by unfold mkB; rw [if_pos (.inr (.inr hy))]; exact D.draws n, (Onb.refl _ _ _).draws n⟩
      · exact mk_in1 D hl hy
  clear D
  go_enter Try.func48, Try.ntmps48
  go_wp2_with (fail)
  refine hM.mono ?_
  rintro e w1 ⟨rfl, h1⟩
  go_wp2_with (fail)
  go_returns
  exact ⟨rfl, h1⟩
set_option maxHeartbeats 2000000 in
theorem mk_in2 (D : Dc w d p b L r f y B o s h l) (hl : l ≠ 0) (hy : ¬ y ≤ l + 8) : Calls Try.prog 38 #[.pointer (some ⟨d, 0, none⟩), .func (.func 69) #[] #[]] w fun e w' => e = .returned (.tuple #[]) ∧ Dc w' d p b L r f y (mkB 2 y l (shut r s) B) o s h l ∧ Onb b d w w' := by
  have hok := D.ok
  have c0 := D.c0
  have c2 := D.c2
  have c4 := D.c4
  have hla := D.la
  have z0 : ((l : Int) == 0) = false := by simp; omega
  obtain ⟨q, hq⟩ : ∃ q, l + 8 = q := ⟨_, rfl⟩
  have e8 : IntKind.i64.wrap ((l : Int) + 8) = (q : Int) := by rw [IntKind.wrap_i64]; omega
  have hB := fun W (D : Dc W d p b L r f y B o s h l) => byte_yes (mode := 0) D.im q _ (D.rd q 1 (by omega) (by omega) (by omega)) rfl
  have i1 : (q : Int) < y := by omega
  have q0 := fun n => hB _ (D.draws n)
  obtain ⟨c, hc⟩ : ∃ c, B.getD q 0 = c := ⟨_, rfl⟩
  rw [hc] at q0
  replace q0 := Lib.hid q0
  have hmf := cls_2 c
  obtain ⟨c2', hc2'⟩ : ∃ c2, mkU 2 c = c2 := ⟨_, rfl⟩
  rw [hc2'] at hmf
  have hmk : shut r s = false → mkB 2 y l (shut r s) B = B.set q c2' := fun h => by
    unfold mkB
    rw [if_neg (by rw [h]; simp; omega), hq, hc, hc2']
  have hmk2 : shut r s = true → mkB 2 y l (shut r s) B = B := fun h => by
    unfold mkB
    rw [if_pos (by simp [h])]
  have hWt : shut r s = false → rowOk L o s 0 q 1 2 := fun h => D.wt h q 1 (by omega) (by omega) (by omega) 2
  have hNw : shut r s = true → ¬ rowOk L o s 0 q 1 2 := fun h => D.nwt h q 1 (by omega) (by omega)
  replace hmf := Lib.hid hmf
  replace hmk := Lib.hid hmk
  replace hmk2 := Lib.hid hmk2
  replace hWt := Lib.hid hWt
  replace hNw := Lib.hid hNw
  replace D := Lib.hid D
  clear hB hc hc2' hq hok hla hl hy
  go_enter Try.func38, Try.ntmps38
  go_wp2_with (fail)
  go_quiet ((go_at_call 63; with_reducible exact Calls.quiet_of_same (q0.out _)))
  go_wp2_with (fail)
  go_quiet (fail)
  go_wp2_with (fail)
  rename_i nn
  obtain ⟨w1, hw1⟩ : ∃ w1, (w.drewN nn).drewN nq = w1 := ⟨_, rfl⟩
  have D1 := (D.out.draws nn).draws nq
  have O1 : Onb b d w ((w.drewN nn).drewN nq) := ((Onb.refl b d w).draws _).draws _
  rw [hw1] at D1 O1 ⊢
  clear hw1 c0 c2 c4 q0
  have c0 := D1.c0
  have c4 := D1.c4
  replace O1 := Lib.hid O1
  cases hsh : shut r s
  · have hS := setbyte_yes (mode := 0) D1.draw.im q c2' (hWt.out hsh)
    replace hS := Lib.hid hS
    replace D1 := Lib.hid D1
    go_region_held3 (fun w' => w'.cell? ⟨d, 0, none⟩ = some (.pointer (some ⟨p, 0, none⟩)) ∧ w'.cell? ⟨d, 4, none⟩ = some (.int .i64 l)) (go_keep)
      ((first | (go_at_call 69; refine Calls.mono (hmf.out _) ?_; rintro e w_ ⟨rfl, hw_⟩; have kS : w_.cell? ⟨d, 0, none⟩ = some (.pointer (some ⟨p, 0, none⟩)) ∧ w_.cell? ⟨d, 4, none⟩ = some (.int .i64 l) := by { rw [hw_]; assumption }; replace hw_ := hw_.symm; subst hw_) | (go_at_call 54; (with_reducible refine Calls.mono hS.out ?_); rintro e w1_ ⟨rfl, hI, hO⟩; have D2 := D1.out.draw.turn hI hO; have kS : w1_.cell? ⟨d, 0, none⟩ = some (.pointer (some ⟨p, 0, none⟩)) ∧ w1_.cell? ⟨d, 4, none⟩ = some (.int .i64 l) := ⟨D2.c0, D2.c4⟩; replace hO := Lib.hid hO; replace D2 := Lib.hid D2)))
    rename_i hHeld_
    clear hHeld_ kS
    go_wp2_with (fail)
    go_returns
    refine ⟨rfl, ?_, O1.out.draw.trans (Onb.ofb hO.out)⟩
    rw [hmk.out hsh]
    exact D2.out
  · have hS := fun W (D : Dc W d p b L r f y B o s h l) => setbyte_no (mode := 0) D.im q (c2'.toNat : Int) (by have := D.ok; omega) (hNw.out hsh)
    have hS1 := fun n => hS _ (D1.draws n)
    replace hS1 := Lib.hid hS1
    replace D1 := Lib.hid D1
    clear hS
    go_quiet ((first | (go_at_call 69; with_reducible exact Calls.quiet_of_same (hmf.out _)) | (go_at_call 54; with_reducible exact Calls.quiet_of_same (hS1.out _))))
    go_wp2_with (fail)
    go_returns
    refine ⟨rfl, ?_, O1.out.draws _⟩
    rw [hmk2.out hsh]
    exact D1.out.draws _
theorem flag_2 (D : Dc w d p b L r f y B o s h l) : Calls Try.prog 49 #[.pointer (some ⟨d, 0, none⟩)] w fun e w' => e = .returned (.tuple #[]) ∧ Dc w' d p b L r f y (mkB 2 y l (shut r s) B) o s h l ∧ Onb b d w w' := by
  have hM : Calls Try.prog 38 #[.pointer (some ⟨d, 0, none⟩), .func (.func 69) #[] #[]] w fun e w' => e = .returned (.tuple #[]) ∧ Dc w' d p b L r f y (mkB 2 y l (shut r s) B) o s h l ∧ Onb b d w w' := by
    by_cases hl : l = 0
    · refine (mk_zero D _ hl).mono ?_
      rintro e w' ⟨rfl, rfl⟩
      exact ⟨rfl, by unfold mkB; rw [if_pos (.inl hl)]; exact D, Onb.refl _ _ _⟩
    · by_cases hy : y ≤ l + 8
      · refine (mk_far D _ hl hy).mono ?_
        rintro e w' ⟨rfl, n, rfl⟩
        exact ⟨rfl, by unfold mkB; rw [if_pos (.inr (.inr hy))]; exact D.draws n, (Onb.refl _ _ _).draws n⟩
      · exact mk_in2 D hl hy
  clear D
  go_enter Try.func49, Try.ntmps49
  go_wp2_with (fail)
  refine hM.mono ?_
  rintro e w1 ⟨rfl, h1⟩
  go_wp2_with (fail)
  go_returns
  exact ⟨rfl, h1⟩
end
end Go.Proofs.Ytoaiiimnfgbcaaa
