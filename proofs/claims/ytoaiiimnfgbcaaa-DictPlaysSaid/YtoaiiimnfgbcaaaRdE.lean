import Derived.Test.YtoaiiimnfgbcaaaRdD
namespace Go.Proofs.Ytoaiiimnfgbcaaa
open Go.RowKit
attribute [local go_sem] Oper.semAt_some
set_option linter.unusedVariables false
set_option linter.unusedSimpArgs false
/-! chapter 8: the document's Create -/
section
variable {W W' w : World} {q m g n : Nat} {B : List UInt8} {cl : Bool} {h l : Nat}
theorem rcr_name (D : Rd w q m g n B cl h l) (nm : ByteArray) (hs : nm.size ≤ maxLen) (hk : nameOk nm = false) : Calls Try.prog 46 #[.pointer (some ⟨q, 0, none⟩), .string nm] w fun e w' => e = .returned (.tuple #[.int .i64 0, .int .i64 15]) ∧ ∃ k, w' = w.drewN k := by
  clear D
  have hnm := Lib.hid (fun w => rname_any nm w hs)
  go_enter Try.func46, Try.ntmps46
  go_wp2_with (fail)
  refine (hnm.out _).mono ?_
  rintro e w1 ⟨rfl, hw1⟩
  have hw1 := hw1.symm
  subst hw1
  rw [hk]
  go_wp2_with (fail)
  go_returns
  exact ⟨rfl, 0, rfl⟩
theorem rcr_full (D : Rd w q m g n B cl h l) (nm : ByteArray) (hs : nm.size ≤ maxLen) (hk : nameOk nm = true) (hf : g + n < upN h + (8 + upN (1 + nm.size))) : Calls Try.prog 46 #[.pointer (some ⟨q, 0, none⟩), .string nm] w fun e w' => e = .returned (.tuple #[.int .i64 0, .int .i64 9]) ∧ ∃ k, w' = w.drewN k := by
  have hnz : 1 ≤ nm.size ∧ nm.size ≤ 31 := by
    have : 1 ≤ nm.size ∧ nm.size ≤ 31 ∧ stop isInk nm 0 = nm.size := by simpa [nameOk] using hk
    exact ⟨this.1, this.2.1⟩
  have hlo := D.lo
  have hhi := D.hi
  have hfar := D.far
  have hla := D.la
  have hu := upN_le h
  have hv := upN_le (1 + nm.size)
  have c3 := D.c3
  have hup := fun w => rup_any h (by omega) w
  have hup2 := fun w => rup_any (1 + nm.size) (by omega) w
  have hto := fun k => rto_any (D.draws k)
  have hto0 := rto_any D
  obtain ⟨y, hy⟩ : ∃ y, g + n = y := ⟨_, rfl⟩
  obtain ⟨a, ha⟩ : ∃ a, upN h = a := ⟨_, rfl⟩
  obtain ⟨b, hb⟩ : ∃ b, upN (1 + nm.size) = b := ⟨_, rfl⟩
  obtain ⟨z, hz⟩ : ∃ z, nm.size = z := ⟨_, rfl⟩
  rw [hy] at hto hto0 hhi hfar
  rw [ha] at hup hu
  rw [hb] at hup2 hv
  rw [hz] at hup2 hv hnz
  rw [ha, hb, hy] at hf
  have hcast : ((1 + z : Nat) : Int) = 1 + (z : Int) := by omega
  rw [hcast] at hup2
  have wr1 : IntKind.i64.wrap (1 + (z : Int)) = 1 + (z : Int) := by rw [IntKind.wrap_i64]; omega
  have wr2 : IntKind.i64.wrap (8 + (b : Int)) = 8 + (b : Int) := by rw [IntKind.wrap_i64]; omega
  have wr3 : IntKind.i64.wrap ((y : Int) - a) = (y : Int) - a := by rw [IntKind.wrap_i64]; omega
  have hsz : (nm.size : Int) = z := by omega
  replace hup := Lib.hid hup
  replace hup2 := Lib.hid hup2
  replace hto := Lib.hid hto
  replace hto0 := Lib.hid hto0
  replace hu := Lib.hid hu
  replace hv := Lib.hid hv
  replace hlo := Lib.hid hlo
  replace hhi := Lib.hid hhi
  replace hfar := Lib.hid hfar
  replace hla := Lib.hid hla
  replace hnz := Lib.hid hnz
  replace ha := Lib.hid ha
  replace hb := Lib.hid hb
  replace hy := Lib.hid hy
  replace D := Lib.hid D
  clear hcast
  have i1 : (y : Int) - a < 8 + (b : Int) := by omega
  clear hf hz
  have hnm := Lib.hid (fun w => rname_any nm w hs)
  go_enter Try.func46, Try.ntmps46
  go_wp2_with (fail)
  refine (hnm.out _).mono ?_
  rintro e w1 ⟨rfl, hw1⟩
  have hw1 := hw1.symm
  subst hw1
  rw [hk]
  go_wp2_with (fail)
  refine (hup.out _).mono ?_
  rintro e w1 ⟨rfl, hw1⟩
  have hw1 := hw1.symm
  subst hw1
  go_wp2_with (fail)
  refine hto0.out.mono ?_
  rintro e w2 ⟨rfl, k1, hk1⟩
  subst hk1
  go_wp2_with (fail)
  refine (hup2.out _).mono ?_
  rintro e w3 ⟨rfl, hw3⟩
  subst hw3
  go_wp2_with (fail)
  go_returns
  exact ⟨rfl, _, rfl⟩
theorem rcr_fence (D : Rd w q m g n B true h l) (nm : ByteArray) (hs : nm.size ≤ maxLen) (hk : nameOk nm = true) (hf : ¬ g + n < upN h + (8 + upN (1 + nm.size))) : Calls Try.prog 46 #[.pointer (some ⟨q, 0, none⟩), .string nm] w fun e w' => e = .returned (.tuple #[.int .i64 0, .int .i64 5]) ∧ ∃ k, w' = w.drewN k := by
  have c2 := D.c2
  have hnz : 1 ≤ nm.size ∧ nm.size ≤ 31 := by
    have : 1 ≤ nm.size ∧ nm.size ≤ 31 ∧ stop isInk nm 0 = nm.size := by simpa [nameOk] using hk
    exact ⟨this.1, this.2.1⟩
  have hlo := D.lo
  have hhi := D.hi
  have hfar := D.far
  have hla := D.la
  have hu := upN_le h
  have hv := upN_le (1 + nm.size)
  have c3 := D.c3
  have hup := fun w => rup_any h (by omega) w
  have hup2 := fun w => rup_any (1 + nm.size) (by omega) w
  have hto := fun k => rto_any (D.draws k)
  have hto0 := rto_any D
  obtain ⟨y, hy⟩ : ∃ y, g + n = y := ⟨_, rfl⟩
  obtain ⟨a, ha⟩ : ∃ a, upN h = a := ⟨_, rfl⟩
  obtain ⟨b, hb⟩ : ∃ b, upN (1 + nm.size) = b := ⟨_, rfl⟩
  obtain ⟨z, hz⟩ : ∃ z, nm.size = z := ⟨_, rfl⟩
  rw [hy] at hto hto0 hhi hfar
  rw [ha] at hup hu
  rw [hb] at hup2 hv
  rw [hz] at hup2 hv hnz
  rw [ha, hb, hy] at hf
  have hcast : ((1 + z : Nat) : Int) = 1 + (z : Int) := by omega
  rw [hcast] at hup2
  have wr1 : IntKind.i64.wrap (1 + (z : Int)) = 1 + (z : Int) := by rw [IntKind.wrap_i64]; omega
  have wr2 : IntKind.i64.wrap (8 + (b : Int)) = 8 + (b : Int) := by rw [IntKind.wrap_i64]; omega
  have wr3 : IntKind.i64.wrap ((y : Int) - a) = (y : Int) - a := by rw [IntKind.wrap_i64]; omega
  have hsz : (nm.size : Int) = z := by omega
  replace hup := Lib.hid hup
  replace hup2 := Lib.hid hup2
  replace hto := Lib.hid hto
  replace hto0 := Lib.hid hto0
  replace hu := Lib.hid hu
  replace hv := Lib.hid hv
  replace hlo := Lib.hid hlo
  replace hhi := Lib.hid hhi
  replace hfar := Lib.hid hfar
  replace hla := Lib.hid hla
  replace hnz := Lib.hid hnz
  replace ha := Lib.hid ha
  replace hb := Lib.hid hb
  replace hy := Lib.hid hy
  replace D := Lib.hid D
  clear hcast
  have i1 : ¬ (y : Int) - a < 8 + (b : Int) := by omega
  clear hf hz
  have hnm := Lib.hid (fun w => rname_any nm w hs)
  go_enter Try.func46, Try.ntmps46
  go_wp2_with (fail)
  refine (hnm.out _).mono ?_
  rintro e w1 ⟨rfl, hw1⟩
  have hw1 := hw1.symm
  subst hw1
  rw [hk]
  go_wp2_with (fail)
  refine (hup.out _).mono ?_
  rintro e w1 ⟨rfl, hw1⟩
  have hw1 := hw1.symm
  subst hw1
  go_wp2_with (fail)
  refine hto0.out.mono ?_
  rintro e w2 ⟨rfl, k1, hk1⟩
  subst hk1
  go_wp2_with (fail)
  refine (hup2.out _).mono ?_
  rintro e w3 ⟨rfl, hw3⟩
  subst hw3
  go_wp2_with (fail)
  go_returns
  exact ⟨rfl, _, rfl⟩
theorem rcr_yes (D : Rd w q m g n B false h l) (nm : ByteArray) (hs : nm.size ≤ maxLen) (hk : nameOk nm = true) (hf : ¬ g + n < upN h + (8 + upN (1 + nm.size))) : Calls Try.prog 46 #[.pointer (some ⟨q, 0, none⟩), .string nm] w fun e w' => e = .returned (.tuple #[.int .i64 (crH h nm.size : Int), .int .i64 0]) ∧ Rd w' q m g n (crB B h l nm) false (crH h nm.size) (upN h) ∧ Onb m q w w' := by
  have c2 := D.c2
  have hnz : 1 ≤ nm.size ∧ nm.size ≤ 31 := by
    have : 1 ≤ nm.size ∧ nm.size ≤ 31 ∧ stop isInk nm 0 = nm.size := by simpa [nameOk] using hk
    exact ⟨this.1, this.2.1⟩
  have hlo := D.lo
  have hhi := D.hi
  have hfar := D.far
  have hla := D.la
  have hu := upN_le h
  have hv := upN_le (1 + nm.size)
  have c3 := D.c3
  have hup := fun w => rup_any h (by omega) w
  have hup2 := fun w => rup_any (1 + nm.size) (by omega) w
  have hto := fun k => rto_any (D.draws k)
  have hto0 := rto_any D
  obtain ⟨y, hy⟩ : ∃ y, g + n = y := ⟨_, rfl⟩
  obtain ⟨a, ha⟩ : ∃ a, upN h = a := ⟨_, rfl⟩
  obtain ⟨b, hb⟩ : ∃ b, upN (1 + nm.size) = b := ⟨_, rfl⟩
  obtain ⟨z, hz⟩ : ∃ z, nm.size = z := ⟨_, rfl⟩
  rw [hy] at hto hto0 hhi hfar
  rw [ha] at hup hu
  rw [hb] at hup2 hv
  rw [hz] at hup2 hv hnz
  rw [ha, hb, hy] at hf
  have hcast : ((1 + z : Nat) : Int) = 1 + (z : Int) := by omega
  rw [hcast] at hup2
  have wr1 : IntKind.i64.wrap (1 + (z : Int)) = 1 + (z : Int) := by rw [IntKind.wrap_i64]; omega
  have wr2 : IntKind.i64.wrap (8 + (b : Int)) = 8 + (b : Int) := by rw [IntKind.wrap_i64]; omega
  have wr3 : IntKind.i64.wrap ((y : Int) - a) = (y : Int) - a := by rw [IntKind.wrap_i64]; omega
  have hsz : (nm.size : Int) = z := by omega
  replace hup := Lib.hid hup
  replace hup2 := Lib.hid hup2
  replace hto := Lib.hid hto
  replace hto0 := Lib.hid hto0
  replace hu := Lib.hid hu
  replace hv := Lib.hid hv
  replace hlo := Lib.hid hlo
  replace hhi := Lib.hid hhi
  replace hfar := Lib.hid hfar
  replace hla := Lib.hid hla
  replace hnz := Lib.hid hnz
  replace ha := Lib.hid ha
  replace hb := Lib.hid hb
  replace hy := Lib.hid hy
  replace D := Lib.hid D
  clear hcast
  have i1 : ¬ (y : Int) - a < 8 + (b : Int) := by omega
  have hfit := Lib.hid hf
  replace hz := Lib.hid hz
  clear hf
  have hnm := Lib.hid (fun w => rname_any nm w hs)
  go_enter Try.func46, Try.ntmps46
  go_wp2_with (fail)
  refine (hnm.out _).mono ?_
  rintro e w1 ⟨rfl, hw1⟩
  have hw1 := hw1.symm
  subst hw1
  rw [hk]
  go_wp2_with (fail)
  refine (hup.out _).mono ?_
  rintro e w1 ⟨rfl, hw1⟩
  have hw1 := hw1.symm
  subst hw1
  go_wp2_with (fail)
  refine hto0.out.mono ?_
  rintro e w2 ⟨rfl, k1, hk1⟩
  subst hk1
  go_wp2_with (fail)
  refine (hup2.out _).mono ?_
  rintro e w3 ⟨rfl, hw3⟩
  subst hw3
  go_wp2_with (fail)
  have D1 := D.out.draws k1
  have O1 := (Onb.refl m q w).draws k1
  have hA := ral_yes D1
  rw [ha.out] at hA
  obtain ⟨B1, hB1⟩ : ∃ B1, fillN B h (a - h) = B1 := ⟨_, rfl⟩
  rw [hB1] at hA
  replace O1 := Lib.hid O1
  clear D1 hup hup2 hto hto0
  refine hA.mono ?_
  clear hA
  rintro e w4 ⟨rfl, D4, O4⟩
  have O4 := O1.out.trans O4
  have c4 := D4.c4
  have hL := rlay_any D4 (l : Int) (by have := hla.out; have := hfar.out; have := hy.out; omega) (by have := hfit.out; have := hu.out; have := hv.out; have := hy.out; omega)
  obtain ⟨B2, hB2⟩ : ∃ B2, splice B1 a (by8 l) = B2 := ⟨_, rfl⟩
  rw [hB2] at hL
  replace hL := Lib.hid hL
  replace O4 := Lib.hid O4
  clear D4 O1
  go_wp2_with (fail)
  refine hL.out.mono ?_
  rintro e w5 ⟨rfl, D5, O5⟩
  have O5 := O4.out.trans O5
  obtain ⟨c, hcc⟩ : ∃ c, UInt8.ofNat (z + 32) = c := ⟨_, rfl⟩
  have hct : (c.toNat : Int) = z + 32 := by have := hnz.out; rw [← hcc, UInt8.toNat_ofNat']; omega
  have u1 : IntKind.i64.wrap (32 + (z : Int)) = 32 + (z : Int) := by have := hnz.out; rw [IntKind.wrap_i64]; omega
  have u2 : IntKind.u8.wrap (32 + (z : Int)) = (c.toNat : Int) := by have := hnz.out; rw [IntKind.wrap_u8]; omega
  have hC2 := rcc_yes D5 c (by have := hfit.out; have := hv.out; have := hy.out; omega)
  obtain ⟨B3, hB3⟩ : ∃ B3, B2.set (a + 8) c = B3 := ⟨_, rfl⟩
  rw [hB3] at hC2
  replace hC2 := Lib.hid hC2
  replace O5 := Lib.hid O5
  replace hct := Lib.hid hct
  clear D5 O4 hL c4
  go_wp2_with (fail)
  refine hC2.out.mono ?_
  rintro e w6 ⟨rfl, D6, O6⟩
  have O6 := O5.out.trans O6
  replace O6 := Lib.hid O6
  replace D6 := Lib.hid D6
  clear hC2 O5 u1 u2
  go_wp2_with (fail)
  go_loopw [8] (fun x60 wr => ∃ k : Nat, x60 = .int .i64 k ∧ k ≤ z ∧ Rd wr q m g n (layN B3 (a + 8 + 1) (nm.data.toList.take k)) false (a + 8 + 1 + k) l ∧ Onb m q w wr) (fun x60 _ => z - (intOf x60).toNat)
  case atStart => exact ⟨0, rfl, by omega, D6.out, O6.out⟩
  case round =>
    clear D6 O6
    obtain ⟨k, rfl, hkn, D7, O7⟩ := hrel
    have k0 : (0 : Int) ≤ k := by omega
    by_cases hk2 : k < z
    · have k1 : (k : Int) < z := by omega
      have k9 : (k : Int) ≤ 31 := by have := hnz.out; omega
      have hks : k < nm.size := by have := hz.out; omega
      have hC := rcc_yes D7 nm[k] (by have := hfit.out; have := hv.out; have := hy.out; omega)
      have hl : (nm.data.toList.take k).length = k := by rw [List.length_take]; have : nm.data.toList.length = nm.size := rfl; omega
      have htk : nm.data.toList.take (k + 1) = nm.data.toList.take k ++ [nm[k]] := by
        have hz : k < nm.data.toList.length := hks
        rw [List.take_succ_eq_append_getElem hz]; rfl
      have hnx := layN_snoc (nm.data.toList.take k) nm[k] B3 (a + 8 + 1)
      rw [hl, ← htk] at hnx
      rw [← hnx] at hC
      replace hC := Lib.hid hC
      replace O7 := Lib.hid O7
      clear D7 hnx htk hl
      go_wp2_with (fail)
      refine hC.out.mono ?_
      rintro e w8 ⟨rfl, D8, O8⟩
      replace D8 := Lib.hid D8
      replace O8 := Lib.hid O8
      go_wp2_with (fail)
      exact ⟨⟨k + 1, rfl, by omega, D8.out, O7.out.trans O8.out⟩, by simp [intOf]; omega⟩
    · obtain rfl : k = z := by omega
      have k1 : ¬ (k : Int) < k := by omega
      have hall : nm.data.toList.take k = nm.data.toList := List.take_of_length_le (by have : nm.data.toList.length = nm.size := rfl; have := hz.out; omega)
      rw [hall, show a + 8 + 1 + k = a + 9 + k by omega] at D7
      have hA := ral_yes D7
      obtain ⟨B5, hB5⟩ : ∃ B5, fillN (layN B3 (a + 8 + 1) nm.data.toList) (a + 9 + k) (upN (a + 9 + k) - (a + 9 + k)) = B5 := ⟨_, rfl⟩
      obtain ⟨h5, hh5⟩ : ∃ h5, upN (a + 9 + k) = h5 := ⟨_, rfl⟩
      rw [hB5, hh5] at hA
      have hcr : crB B h l nm = B5 := by rw [← hB5, ← hB3, ← hB2, ← hB1, ← hcc]; unfold crB; rw [ha.out, hz.out]
      have hch : crH h nm.size = h5 := by rw [← hh5, hz.out]; unfold crH; rw [ha.out]
      replace hA := Lib.hid hA
      replace O7 := Lib.hid O7
      replace hcr := Lib.hid hcr
      replace hch := Lib.hid hch
      clear D7 hB1 hB2 hB3 hB5 hh5 hall
      go_wp2_with (fail)
      refine hA.out.mono ?_
      rintro e w8 ⟨rfl, D8, O8⟩
      have f4 := D8.bk.free 4
      have q4 := D8.c4
      have D9 := D8.put4 a (.inr (by have := hlo.out; have := hu.out; have := hfit.out; have := hv.out; have := hy.out; omega))
      have q3 := D9.c3
      have O8 := (O7.out.trans O8).putd 4 (.int .i64 a)
      replace D9 := Lib.hid D9
      replace O8 := Lib.hid O8
      clear D8
      go_wp2_with (fail)
      go_returns
      rw [hcr.out, hch.out, ha.out]
      first | exact ⟨rfl, D9.out, O8.out⟩
end
end Go.Proofs.Ytoaiiimnfgbcaaa
