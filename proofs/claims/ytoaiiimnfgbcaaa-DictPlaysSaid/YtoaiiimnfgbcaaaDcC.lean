import Derived.Test.YtoaiiimnfgbcaaaDcB
import Derived.Test.YtoaiiimnfgbcaaaNmA
namespace Go.Proofs.Ytoaiiimnfgbcaaa
open Go.RowKit
set_option linter.unusedVariables false
set_option linter.unusedSimpArgs false
/-! Create -/
theorem below_drawn {B : Nat} {a b : World} (h : Below B a b) (n : Nat) : Below B a (b.drewN n) := ⟨h.os, h.tape, h.output, h.size, h.block⟩
/-- bytes, one behind the other -/
def layN (B : List UInt8) (a : Nat) : List UInt8 → List UInt8
  | [] => B
  | c :: cs => layN (B.set a c) (a + 1) cs
theorem layN_snoc (cs : List UInt8) (c : UInt8) : ∀ (B : List UInt8) (a : Nat), layN B a (cs ++ [c]) = (layN B a cs).set (a + cs.length) c := by
  induction cs with
  | nil => intro B a; rfl
  | cons x cs ih =>
    intro B a
    rw [List.cons_append, layN, layN, ih, List.length_cons, show a + 1 + cs.length = a + (cs.length + 1) by omega]
theorem layN_len (cs : List UInt8) : ∀ (B : List UInt8) (a : Nat), (layN B a cs).length = B.length := by
  induction cs with
  | nil => intro B a; rfl
  | cons x cs ih => intro B a; rw [layN, ih, List.length_set]
/-- what Create lays: the bytes, the next free address -/
def crB (B : List UInt8) (h l : Nat) (s : ByteArray) : List UInt8 :=
  fillN (layN ((splice (fillN B h (upN h - h)) (upN h) (by8 l)).set (upN h + 8) (UInt8.ofNat (s.size + 32))) (upN h + 8 + 1) s.data.toList) (upN h + 9 + s.size) (upN (upN h + 9 + s.size) - (upN h + 9 + s.size))
def crH (h n : Nat) : Nat := upN (upN h + 9 + n)
section
variable {w : World} {d p b r f y h l : Nat} {L : Lay} {B : List UInt8} {o s : Bool}
theorem cr_name (D : Dc w d p b L r f y B o s h l) (nm : ByteArray) (hs : nm.size ≤ maxLen) (hk : nameOk nm = false) : Calls Try.prog 14 #[.pointer (some ⟨d, 0, none⟩), .string nm] w fun e w' => e = .returned (.tuple #[.int .i64 0, .int .i64 15]) ∧ Below w.heap.size w w' := by
  have hN := name_any nm w hs
  rw [hk] at hN
  replace hN := Lib.hid hN
  clear D hk
  go_enter Try.func14, Try.ntmps14
  go_wp2_with (fail)
  refine hN.out.mono ?_
  rintro e w1 ⟨rfl, hb⟩
  go_wp2_with (fail)
  go_returns
  exact ⟨rfl, hb⟩
set_option maxHeartbeats 1000000 in
theorem cr_full (D : Dc w d p b L r f y B o s h l) (nm : ByteArray) (hs : nm.size ≤ maxLen) (hk : nameOk nm = true) (hf : y < upN h + (8 + upN (1 + nm.size))) : Calls Try.prog 14 #[.pointer (some ⟨d, 0, none⟩), .string nm] w fun e w' => e = .returned (.tuple #[.int .i64 0, .int .i64 9]) ∧ Below w.heap.size w w' := by
  have hN := name_any nm w hs
  rw [hk] at hN
  have hsz : 1 ≤ nm.size ∧ nm.size ≤ 31 := by
    have : 1 ≤ nm.size ∧ nm.size ≤ 31 ∧ stop isInk nm 0 = nm.size := by simpa [nameOk] using hk
    exact ⟨this.1, this.2.1⟩
  have hok := D.ok
  have hi := D.hi
  have hlo := D.lo
  have hu := upN_le h
  have hv := upN_le (1 + nm.size)
  have hU1 := fun w => up_any h (by omega) w
  have hU2 := fun w => up_any (1 + nm.size) (by omega) w
  obtain ⟨n, hn⟩ : ∃ n, nm.size = n := ⟨_, rfl⟩
  obtain ⟨a, ha⟩ : ∃ a, upN h = a := ⟨_, rfl⟩
  obtain ⟨v, hv0⟩ : ∃ v, upN (1 + n) = v := ⟨_, rfl⟩
  rw [hn] at hU2 hv hsz
  rw [hv0] at hU2 hv
  rw [ha] at hU1 hu
  have e1 : (IntKind.i64.wrap (1 + (n : Int))) = ((1 + n : Nat) : Int) := by rw [IntKind.wrap_i64]; omega
  have e2 : (IntKind.i64.wrap (8 + (v : Int))) = 8 + v := by rw [IntKind.wrap_i64]; omega
  have e3 : (IntKind.i64.wrap ((y : Int) - a)) = y - a := by rw [IntKind.wrap_i64]; omega
  replace hN := Lib.hid hN
  replace hU1 := Lib.hid hU1
  replace hU2 := Lib.hid hU2
  go_enter Try.func14, Try.ntmps14
  go_wp2_with (fail)
  refine hN.out.mono ?_
  rintro e w1 ⟨rfl, hb1⟩
  have hb1z := hb1.size
  have D1 := D.bel hb1
  have c3 := D1.c3
  have c2 := D1.c2
  have c1 := D1.c1
  have c0 := D1.c0
  replace D1 := Lib.hid D1
  replace hb1 := Lib.hid hb1
  replace hb1z := Lib.hid hb1z
  replace hok := Lib.hid hok
  replace hn' := Lib.hid hn
  clear D hN
  go_wp2_with (fail)
  refine (hU1.out w1).mono ?_
  rintro e w2 ⟨rfl, hw2⟩
  replace hw2 := hw2.symm
  subst hw2
  go_wp2_with (fail)
  go_quiet ((go_at_call 33; exact Calls.quiet_of_same (hU2.out _)))
  have g1 : (y : Int) - a < 8 + v := by rw [ha, hn, hv0] at hf; omega
  go_wp2_with (fail)
  go_returns
  exact ⟨rfl, below_drawn hb1.out _⟩
set_option maxHeartbeats 1000000 in
theorem cr_fence (D : Dc w d p b L r f y B o s h l) (nm : ByteArray) (hs : nm.size ≤ maxLen) (hk : nameOk nm = true) (hf : ¬ y < upN h + (8 + upN (1 + nm.size))) (hc : shut r s = true) : Calls Try.prog 14 #[.pointer (some ⟨d, 0, none⟩), .string nm] w fun e w' => e = .returned (.tuple #[.int .i64 0, .int .i64 5]) ∧ Below w.heap.size w w' := by
  have hN := name_any nm w hs
  rw [hk] at hN
  have hsz : 1 ≤ nm.size ∧ nm.size ≤ 31 := by
    have : 1 ≤ nm.size ∧ nm.size ≤ 31 ∧ stop isInk nm 0 = nm.size := by simpa [nameOk] using hk
    exact ⟨this.1, this.2.1⟩
  have hok := D.ok
  have hi := D.hi
  have hlo := D.lo
  have hu := upN_le h
  have hv := upN_le (1 + nm.size)
  have hU1 := fun w => up_any h (by omega) w
  have hU2 := fun w => up_any (1 + nm.size) (by omega) w
  obtain ⟨n, hn⟩ : ∃ n, nm.size = n := ⟨_, rfl⟩
  obtain ⟨a, ha⟩ : ∃ a, upN h = a := ⟨_, rfl⟩
  obtain ⟨v, hv0⟩ : ∃ v, upN (1 + n) = v := ⟨_, rfl⟩
  rw [hn] at hU2 hv hsz
  rw [hv0] at hU2 hv
  rw [ha] at hU1 hu
  have e1 : (IntKind.i64.wrap (1 + (n : Int))) = ((1 + n : Nat) : Int) := by rw [IntKind.wrap_i64]; omega
  have e2 : (IntKind.i64.wrap (8 + (v : Int))) = 8 + v := by rw [IntKind.wrap_i64]; omega
  have e3 : (IntKind.i64.wrap ((y : Int) - a)) = y - a := by rw [IntKind.wrap_i64]; omega
  replace hN := Lib.hid hN
  replace hU1 := Lib.hid hU1
  replace hU2 := Lib.hid hU2
  go_enter Try.func14, Try.ntmps14
  go_wp2_with (fail)
  refine hN.out.mono ?_
  rintro e w1 ⟨rfl, hb1⟩
  have hb1z := hb1.size
  have D1 := D.bel hb1
  have c3 := D1.c3
  have c2 := D1.c2
  have c1 := D1.c1
  have c0 := D1.c0
  replace D1 := Lib.hid D1
  replace hb1 := Lib.hid hb1
  replace hb1z := Lib.hid hb1z
  replace hok := Lib.hid hok
  replace hn' := Lib.hid hn
  clear D hN
  go_wp2_with (fail)
  refine (hU1.out w1).mono ?_
  rintro e w2 ⟨rfl, hw2⟩
  replace hw2 := hw2.symm
  subst hw2
  go_wp2_with (fail)
  go_quiet ((go_at_call 33; exact Calls.quiet_of_same (hU2.out _)))
  have g1 : ¬ (y : Int) - a < 8 + v := by rw [ha, hn, hv0] at hf; omega
  go_wp2_with (fail)
  obtain ⟨w2, hw2⟩ : ∃ w2, w1.drewN nq = w2 := ⟨_, rfl⟩
  have D2 := D1.out.draws nq
  have hb2 := below_drawn hb1.out nq
  have hb2z : w.heap.size ≤ w2.heap.size := by rw [← hw2]; exact hb1z.out
  rw [hw2] at D2 hb2 ⊢
  clear hw2 c0 c1 c2 c3 hb1 hb1z D1
  have c0 := D2.c0
  have c1 := D2.c1
  have hrg : L.reg (f : Int) = r := reg_of D2.im.ok r f (by have := D2.rr; omega) (by have := D2.rr; omega) (by have := D2.fx; omega) (by have := D2.yx; have := hok.out; omega)
  have hR := fun n => region_any p b L B o s (f : Int) _ (D2.im.draws n)
  have hM := fun n => may_any p b L B o s 0 (r : Int) _ (D2.im.draws n)
  rw [hrg] at hR
  replace hR := Lib.hid hR
  replace hb2 := Lib.hid hb2
  replace hb2z := Lib.hid hb2z
  have hmm : mayN o s 0 (r : Int) = 1 := by
    have hs : r = 1 ∧ s = true := by simpa [shut] using hc
    rw [hs.1, hs.2]; simp [mayN]
  rw [hmm] at hM
  have t2 : bits BinOp.and IntKind.i64 1 2 = 0 := by decide
  replace hM := Lib.hid hM
  replace D2 := Lib.hid D2
  go_quiet ((first | (go_at_call 35; with_reducible exact Calls.quiet_of_same (hR.out _)) | (go_at_call 34; exact Calls.quiet_of_same (hM.out _))))
  go_wp2_with (fail)
  go_returns
  exact ⟨rfl, below_drawn hb2.out _⟩
set_option maxHeartbeats 4000000 in
theorem cr_yes (D : Dc w d p b L r f y B o s h l) (nm : ByteArray) (hs : nm.size ≤ maxLen) (hk : nameOk nm = true) (hf : ¬ y < upN h + (8 + upN (1 + nm.size))) (hc : shut r s = false) : Calls Try.prog 14 #[.pointer (some ⟨d, 0, none⟩), .string nm] w fun e w' => e = .returned (.tuple #[.int .i64 (crH h nm.size : Int), .int .i64 0]) ∧ Dc w' d p b L r f y (crB B h l nm) o s (crH h nm.size) (upN h) ∧ Onb b d w w' := by
  have hN := name_any nm w hs
  rw [hk] at hN
  have hsz : 1 ≤ nm.size ∧ nm.size ≤ 31 := by
    have : 1 ≤ nm.size ∧ nm.size ≤ 31 ∧ stop isInk nm 0 = nm.size := by simpa [nameOk] using hk
    exact ⟨this.1, this.2.1⟩
  have hok := D.ok
  have hi := D.hi
  have hlo := D.lo
  have hu := upN_le h
  have hv := upN_le (1 + nm.size)
  have hU1 := fun w => up_any h (by omega) w
  have hU2 := fun w => up_any (1 + nm.size) (by omega) w
  obtain ⟨n, hn⟩ : ∃ n, nm.size = n := ⟨_, rfl⟩
  obtain ⟨a, ha⟩ : ∃ a, upN h = a := ⟨_, rfl⟩
  obtain ⟨v, hv0⟩ : ∃ v, upN (1 + n) = v := ⟨_, rfl⟩
  rw [hn] at hU2 hv hsz
  rw [hv0] at hU2 hv
  rw [ha] at hU1 hu
  have e1 : (IntKind.i64.wrap (1 + (n : Int))) = ((1 + n : Nat) : Int) := by rw [IntKind.wrap_i64]; omega
  have e2 : (IntKind.i64.wrap (8 + (v : Int))) = 8 + v := by rw [IntKind.wrap_i64]; omega
  have e3 : (IntKind.i64.wrap ((y : Int) - a)) = y - a := by rw [IntKind.wrap_i64]; omega
  replace hN := Lib.hid hN
  replace hU1 := Lib.hid hU1
  replace hU2 := Lib.hid hU2
  go_enter Try.func14, Try.ntmps14
  go_wp2_with (fail)
  refine hN.out.mono ?_
  rintro e w1 ⟨rfl, hb1⟩
  have hb1z := hb1.size
  have D1 := D.bel hb1
  have c3 := D1.c3
  have c2 := D1.c2
  have c1 := D1.c1
  have c0 := D1.c0
  replace D1 := Lib.hid D1
  replace hb1 := Lib.hid hb1
  replace hb1z := Lib.hid hb1z
  replace hok := Lib.hid hok
  replace hn' := Lib.hid hn
  clear D hN
  go_wp2_with (fail)
  refine (hU1.out w1).mono ?_
  rintro e w2 ⟨rfl, hw2⟩
  replace hw2 := hw2.symm
  subst hw2
  go_wp2_with (fail)
  go_quiet ((go_at_call 33; exact Calls.quiet_of_same (hU2.out _)))
  have g1 : ¬ (y : Int) - a < 8 + v := by rw [ha, hn, hv0] at hf; omega
  go_wp2_with (fail)
  obtain ⟨w2, hw2⟩ : ∃ w2, w1.drewN nq = w2 := ⟨_, rfl⟩
  have D2 := D1.out.draws nq
  have hb2 := below_drawn hb1.out nq
  have hb2z : w.heap.size ≤ w2.heap.size := by rw [← hw2]; exact hb1z.out
  rw [hw2] at D2 hb2 ⊢
  clear hw2 c0 c1 c2 c3 hb1 hb1z D1
  have c0 := D2.c0
  have c1 := D2.c1
  have hrg : L.reg (f : Int) = r := reg_of D2.im.ok r f (by have := D2.rr; omega) (by have := D2.rr; omega) (by have := D2.fx; omega) (by have := D2.yx; have := hok.out; omega)
  have hR := fun n => region_any p b L B o s (f : Int) _ (D2.im.draws n)
  have hM := fun n => may_any p b L B o s 0 (r : Int) _ (D2.im.draws n)
  rw [hrg] at hR
  replace hR := Lib.hid hR
  replace hb2 := Lib.hid hb2
  replace hb2z := Lib.hid hb2z
  have hmm : mayN o s 0 (r : Int) = 3 := by
    rcases D2.rr with rfl | rfl
    · have : s = false := by simpa [shut] using hc
      subst this
      exact may_sys o 1 (by decide) (by decide)
    · exact may_stu o s 0 (.inl rfl)
  rw [hmm] at hM
  have t2 : bits BinOp.and IntKind.i64 3 2 = 2 := by decide
  replace hM := Lib.hid hM
  replace D2 := Lib.hid D2
  go_quiet ((first | (go_at_call 35; with_reducible exact Calls.quiet_of_same (hR.out _)) | (go_at_call 34; exact Calls.quiet_of_same (hM.out _))))
  go_wp2_with (fail)
  obtain ⟨w3, hw3⟩ : ∃ w3, w2.drewN nq = w3 := ⟨_, rfl⟩
  have D3 := D2.out.draws nq
  have O3 : Onb b d w w3 := by rw [← hw3]; exact (Onb.ofbel (hb2.out.mono (Nat.le_refl _))).draws nq
  rw [hw3] at D3 ⊢
  clear hw3 c0 c1 hR hM D2 hb2 hb2z
  have hA := al_yes D3 hc
  rw [ha] at hA
  obtain ⟨B1, hB1⟩ : ∃ B1, fillN B h (a - h) = B1 := ⟨_, rfl⟩
  rw [hB1] at hA
  clear D3
  refine hA.mono ?_
  clear hA
  rintro e w4 ⟨rfl, D4, O4⟩
  have c4 := D4.c4
  have hok' := hok.out
  have hC := cm_yes D4 (l : Int) (by omega) hu.2.2 hc
  obtain ⟨B2, hB2⟩ : ∃ B2, splice B1 a (by8 l) = B2 := ⟨_, rfl⟩
  rw [hB2] at hC
  have O4 := O3.trans O4
  replace hC := Lib.hid hC
  replace O4 := Lib.hid O4
  clear D4 O3
  go_wp2_with (fail)
  refine hC.out.mono ?_
  rintro e w5 ⟨rfl, D5, O5⟩
  have O5 := O4.out.trans O5
  obtain ⟨c, hcc⟩ : ∃ c, UInt8.ofNat (n + 32) = c := ⟨_, rfl⟩
  have hct : (c.toNat : Int) = n + 32 := by rw [← hcc, UInt8.toNat_ofNat']; omega
  have u1 : IntKind.i64.wrap ((n : Int) + 32) = n + 32 := by rw [IntKind.wrap_i64]; omega
  have u2 : IntKind.u8.wrap ((n : Int) + 32) = (c.toNat : Int) := by rw [IntKind.wrap_u8]; omega
  have hC2 := cc_yes D5 c (by omega) hc
  obtain ⟨B3, hB3⟩ : ∃ B3, B2.set (a + 8) c = B3 := ⟨_, rfl⟩
  rw [hB3] at hC2
  replace hC2 := Lib.hid hC2
  replace O5 := Lib.hid O5
  replace hct := Lib.hid hct
  clear D5 O4 hC c4
  go_wp2_with (fail)
  refine hC2.out.mono ?_
  rintro e w6 ⟨rfl, D6, O6⟩
  have O6 := O5.out.trans O6
  replace O6 := Lib.hid O6
  replace D6 := Lib.hid D6
  clear hC2 O5 u1 u2
  go_wp2_with (fail)
  go_loopw [60] (fun x60 wr => ∃ k : Nat, x60 = .int .i64 k ∧ k ≤ n ∧ Dc wr d p b L r f y (layN B3 (a + 8 + 1) (nm.data.toList.take k)) o s (a + 8 + 1 + k) l ∧ Onb b d w wr) (fun x60 _ => n - (intOf x60).toNat)
  case atStart => exact ⟨0, rfl, by omega, D6.out, O6.out⟩
  case round =>
    clear D6 O6
    obtain ⟨k, rfl, hkn, D7, O7⟩ := hrel
    have k0 : (0 : Int) ≤ k := by omega
    by_cases hk2 : k < n
    · have k1 : (k : Int) < n := by omega
      have hks : k < nm.size := by omega
      have hC := cc_yes D7 nm[k] (by omega) hc
      have hl : (nm.data.toList.take k).length = k := by rw [List.length_take]; have : nm.data.toList.length = nm.size := rfl; omega
      have htk : nm.data.toList.take (k + 1) = nm.data.toList.take k ++ [nm[k]] := by
        have hz : k < nm.data.toList.length := hks
        rw [List.take_succ_eq_append_getElem hz]; rfl
      have hnx := layN_snoc (nm.data.toList.take k) nm[k] B3 (a + 8 + 1)
      rw [hl, ← htk] at hnx
      rw [← hnx] at hC
      replace hC := Lib.hid hC
      replace O7 := Lib.hid O7
      clear D7 hnx htk hl
      go_wp2_with (fail)
      refine hC.out.mono ?_
      rintro e w8 ⟨rfl, D8, O8⟩
      replace D8 := Lib.hid D8
      replace O8 := Lib.hid O8
      go_wp2_with (fail)
      exact ⟨⟨k + 1, rfl, by omega, D8.out, O7.out.trans O8.out⟩, by simp [intOf]; omega⟩
    · obtain rfl : k = n := by omega
      have k1 : ¬ (k : Int) < k := by omega
      have hall : nm.data.toList.take k = nm.data.toList := List.take_of_length_le (by have : nm.data.toList.length = nm.size := rfl; omega)
      rw [hall, show a + 8 + 1 + k = a + 9 + k by omega] at D7
      have hA := al_yes D7 hc
      obtain ⟨B5, hB5⟩ : ∃ B5, fillN (layN B3 (a + 8 + 1) nm.data.toList) (a + 9 + k) (upN (a + 9 + k) - (a + 9 + k)) = B5 := ⟨_, rfl⟩
      obtain ⟨h5, hh5⟩ : ∃ h5, upN (a + 9 + k) = h5 := ⟨_, rfl⟩
      rw [hB5, hh5] at hA
      have hcr : crB B h l nm = B5 := by rw [← hB5, ← hB3, ← hB2, ← hB1, ← hcc]; unfold crB; rw [ha, hn]
      have hch : crH h nm.size = h5 := by rw [← hh5, hn]; unfold crH; rw [ha]
      replace hA := Lib.hid hA
      replace O7 := Lib.hid O7
      replace hcr := Lib.hid hcr
      replace hch := Lib.hid hch
      clear D7 hB1 hB2 hB3 hB5 hh5 hall
      go_wp2_with (fail)
      refine hA.out.mono ?_
      rintro e w8 ⟨rfl, D8, O8⟩
      have f4 := D8.bk.free 4
      have q4 := D8.c4
      have D9 := D8.put4 a (.inr (by omega))
      have q3 := D9.c3
      replace D9 := Lib.hid D9
      replace O8 := Lib.hid O8
      clear D8
      go_wp2_with (fail)
      go_returns
      refine ⟨by rw [hch.out]; rfl, ?_, O7.out.trans (O8.out.putd 4 _)⟩
      rw [hcr.out, hch.out, ha]
      exact D9.out
end
end Go.Proofs.Ytoaiiimnfgbcaaa
