import Derived.Test.YtoaiiimnfgbcaaaImB
import Derived.Test.YtoaiiimnfgbcaaaCel8
import Derived.Test.YtoaiiimnfgbcaaaMem8
namespace Go.Proofs.Ytoaiiimnfgbcaaa
open Go.RowKit
set_option linter.unusedVariables false
set_option linter.unusedSimpArgs false
theorem Im.put {W : World} {p b : Nat} {L : Lay} {B : List UInt8} {o s : Bool} (h : Im W p b L B o s) (i : Nat) (c : UInt8) : Im (W.setCell ⟨b, i, none⟩ (.int .u8 (c.toNat : Int))) p b L (B.set i c) o s :=
  ⟨h.ok, h.st.other (p := ⟨b, i, none⟩) h.ne _, by
    have := h.by_.put i (.int .u8 (c.toNat : Int))
    have e : (u8s B).toArray.setIfInBounds i (.int .u8 (c.toNat : Int)) = (u8s (B.set i c)).toArray := by simp [u8s, List.map_set]
    rw [e] at this
    exact this, by rw [List.length_set]; exact h.len⟩
/-- the bytes' block has turned -/
theorem Im.turned {W W' : World} {p b : Nat} {L : Lay} {B B' : List UInt8} {o s : Bool} (h : Im W p b L B o s) (hb : Bk W' b 5 (u8s B').toArray) (ho : Only b W W') (hl : B'.length = B.length) : Im W' p b L B' o s :=
  ⟨h.ok, ho.bk h.st h.ne, hb, by rw [hl]; exact h.len⟩
theorem row_len {L : Lay} (h : L.ok) {o s : Bool} {mode a n right : Int} (hok : rowOk L o s mode a n right) : 0 ≤ a ∧ a + n ≤ L.b6 := by
  obtain ⟨k1, k2, k3⟩ := hok
  obtain ⟨r1, r2, r3, r4⟩ := reg_in h a k1
  omega
section
variable {p b : Nat} {L : Lay} {B : List UInt8} {o s : Bool} {mode : Int} {w : World}
theorem row_at (h : Im w p b L B o s) (a n : Nat) (right : Int) (hn : 0 < n) (hr : right = 1 ∨ right = 2) (hok : rowOk L o s mode a n right) :
    Calls Try.prog 71 #[.pointer (some ⟨p, 0, none⟩), .int .i64 mode, .int .i64 a, .int .i64 n, .int .i64 right] w fun e w' => e = .returned (.tuple #[.slice (some ⟨b, a, none⟩) n n, .bool true]) ∧ w' = w :=
  row_yes p b L B o s mode a n right w h (by omega) hr hok
set_option maxHeartbeats 1000000 in
theorem byte_yes (h : Im w p b L B o s) (a : Nat) (c : UInt8) (hok : rowOk L o s mode a 1 1) (hc : B.getD a 0 = c) :
    Calls Try.prog 63 #[.pointer (some ⟨p, 0, none⟩), .int .i64 mode, .int .i64 a] w fun e w' => e = .returned (.tuple #[.int .u8 (c.toNat : Int), .int .i64 0]) ∧ w' = w := by
  have hl := row_len h.ok hok
  have hlt : a < B.length := by rw [h.len]; omega
  have c0 := h.byte a hlt
  rw [show B[a] = c by rw [← hc, List.getD_eq_getElem?_getD, List.getElem?_eq_getElem hlt]; rfl] at c0
  have hR := Lib.hid (row_at h a 1 1 (by decide) (.inl rfl) hok)
  clear h hl hok hc
  go_enter Try.func63, Try.ntmps63
  go_wp2_with (fail)
  refine hR.out.mono ?_
  rintro e w1 ⟨rfl, rfl⟩
  go_wp2_with (fail)
  go_returns
  exact ⟨rfl, rfl⟩
set_option maxHeartbeats 1000000 in
theorem byte_no (h : Im w p b L B o s) (a : Int) (ha : -9223372036854775808 ≤ a ∧ a ≤ 9223372036854775807) (hok : ¬ rowOk L o s mode a 1 1) :
    Calls Try.prog 63 #[.pointer (some ⟨p, 0, none⟩), .int .i64 mode, .int .i64 a] w fun e w' => e = .returned (.tuple #[.int .u8 0, .int .i64 5]) ∧ w' = w := by
  have hR := Lib.hid (row_no p b L B o s mode a 1 1 w h (by decide) (by decide) ha (.inl rfl) hok)
  clear h hok
  go_enter Try.func63, Try.ntmps63
  go_wp2_with (fail)
  refine hR.out.mono ?_
  rintro e w1 ⟨rfl, rfl⟩
  go_wp2_with (fail)
  go_returns
  exact ⟨rfl, rfl⟩
set_option maxHeartbeats 1000000 in
theorem setbyte_yes (h : Im w p b L B o s) (a : Nat) (c : UInt8) (hok : rowOk L o s mode a 1 2) :
    Calls Try.prog 54 #[.pointer (some ⟨p, 0, none⟩), .int .i64 mode, .int .i64 a, .int .u8 (c.toNat : Int)] w fun e w' => e = .returned (.int .i64 0) ∧ Im w' p b L (B.set a c) o s ∧ Only b w w' := by
  have hl := row_len h.ok hok
  have hlt : a < B.length := by rw [h.len]; omega
  have c0 := h.byte a hlt
  have f0 := h.by_.free a
  have hR := Lib.hid (row_at h a 1 2 (by decide) (.inr rfl) hok)
  replace h := Lib.hid h
  clear hl hok
  go_enter Try.func54, Try.ntmps54
  go_wp2_with (fail)
  refine hR.out.mono ?_
  rintro e w1 ⟨rfl, rfl⟩
  go_wp2_with (fail)
  go_returns
  exact ⟨rfl, h.out.put a c, (Only.refl b _).put a _⟩
set_option maxHeartbeats 1000000 in
theorem setbyte_no (h : Im w p b L B o s) (a : Int) (v : Int) (ha : -9223372036854775808 ≤ a ∧ a ≤ 9223372036854775807) (hok : ¬ rowOk L o s mode a 1 2) :
    Calls Try.prog 54 #[.pointer (some ⟨p, 0, none⟩), .int .i64 mode, .int .i64 a, .int .u8 v] w fun e w' => e = .returned (.int .i64 5) ∧ w' = w := by
  have hR := Lib.hid (row_no p b L B o s mode a 1 2 w h (by decide) (by decide) ha (.inr rfl) hok)
  clear h hok
  go_enter Try.func54, Try.ntmps54
  go_wp2_with (fail)
  refine hR.out.mono ?_
  rintro e w1 ⟨rfl, rfl⟩
  go_wp2_with (fail)
  go_returns
  exact ⟨rfl, rfl⟩
theorem array8_at (a : Addr) (n c : Nat) (hn : 8 ≤ n) (w : World) : (Instr.arrayAt 111 (.slice (some a) n c)).run Try.prog w = .ok (.pointer (some a)) w := by
  have h : ¬ n < 8 := by omega
  unfold Instr.arrayAt
  simp [run_underlying Try.underlying111, h]
theorem cell_align (a : Int) (h : ¬ a % 8 = 0) : Calls Try.prog 74 #[.pointer (some ⟨p, 0, none⟩), .int .i64 mode, .int .i64 a] w fun e w' => e = .returned (.tuple #[.int .i64 0, .int .i64 6]) ∧ w' = w := by
  have h7 : (bits BinOp.and IntKind.i64 a 7 != 0) = true := by rw [i64_and7]; simpa using h
  go_enter Try.func74, Try.ntmps74
  go_wp2_with (fail)
  go_returns
  exact ⟨rfl, rfl⟩
set_option maxHeartbeats 1000000 in
theorem cell_no (h : Im w p b L B o s) (a : Int) (ha : -9223372036854775808 ≤ a ∧ a ≤ 9223372036854775807) (h8 : a % 8 = 0) (hok : ¬ rowOk L o s mode a 8 1) :
    Calls Try.prog 74 #[.pointer (some ⟨p, 0, none⟩), .int .i64 mode, .int .i64 a] w fun e w' => e = .returned (.tuple #[.int .i64 0, .int .i64 5]) ∧ w' = w := by
  have h7 : (bits BinOp.and IntKind.i64 a 7 != 0) = false := by rw [i64_and7]; simpa using h8
  have hR := Lib.hid (row_no p b L B o s mode a 8 1 w h (by decide) (by decide) ha (.inl rfl) hok)
  clear h hok h8
  go_enter Try.func74, Try.ntmps74
  go_wp2_with (fail)
  refine hR.out.mono ?_
  rintro e w1 ⟨rfl, rfl⟩
  go_wp2_with (fail)
  go_returns
  exact ⟨rfl, rfl⟩
set_option maxHeartbeats 1000000 in
theorem cell_yes (h : Im w p b L B o s) (a : Nat) (v : Int) (h8 : a % 8 = 0) (hok : rowOk L o s mode a 8 1) (hv : cel B a = v) :
    Calls Try.prog 74 #[.pointer (some ⟨p, 0, none⟩), .int .i64 mode, .int .i64 a] w fun e w' => e = .returned (.tuple #[.int .i64 v, .int .i64 0]) ∧ Below w.heap.size w w' := by
  have h7 : (bits BinOp.and IntKind.i64 a 7 != 0) = false := by rw [i64_and7]; simp; omega
  have hl := row_len h.ok hok
  have hlt : a + 8 ≤ B.length := by rw [h.len]; omega
  have k := fun j hj => h.byte (a + j) hj
  have k0 := k 0 (by omega)
  have k1 := k 1 (by omega)
  have k2 := k 2 (by omega)
  have k3 := k 3 (by omega)
  have k4 := k 4 (by omega)
  have k5 := k 5 (by omega)
  have k6 := k 6 (by omega)
  have k7 := k 7 (by omega)
  have hcel : cel [B[a + 0], B[a + 1], B[a + 2], B[a + 3], B[a + 4], B[a + 5], B[a + 6], B[a + 7]] 0 = v := by
    rw [← hv]
    refine cel_congr _ _ _ _ fun j hj => ?_
    have e : ∀ i (hi : i < B.length), B.getD i 0 = B[i] := fun i hi => by rw [List.getD_eq_getElem?_getD, List.getElem?_eq_getElem hi]; rfl
    rcases (by omega : j = 0 ∨ j = 1 ∨ j = 2 ∨ j = 3 ∨ j = 4 ∨ j = 5 ∨ j = 6 ∨ j = 7) with rfl | rfl | rfl | rfl | rfl | rfl | rfl | rfl <;> (rw [e _ (by omega)]; rfl)
  have hR := Lib.hid (row_at h a 8 1 (by decide) (.inl rfl) hok)
  generalize B[a + 0] = b0 at *
  generalize B[a + 1] = b1 at *
  generalize B[a + 2] = b2 at *
  generalize B[a + 3] = b3 at *
  generalize B[a + 4] = b4 at *
  generalize B[a + 5] = b5 at *
  generalize B[a + 6] = b6 at *
  generalize B[a + 7] = b7 at *
  clear h hl hok h8 hv k
  simp only [Nat.add_zero] at k0
  have hat := array8_at ⟨b, a, none⟩ 8 8 (by decide)
  have hO : ∀ W, Calls Try.prog 78 #[.agg #[.int .u8 (b0.toNat : Int), .int .u8 (b1.toNat : Int), .int .u8 (b2.toNat : Int), .int .u8 (b3.toNat : Int), .int .u8 (b4.toNat : Int), .int .u8 (b5.toNat : Int), .int .u8 (b6.toNat : Int), .int .u8 (b7.toNat : Int)]] W fun e w' => e = .returned (.int .i64 v) ∧ Below W.heap.size W w' := fun W => by
    have := of8 [b0, b1, b2, b3, b4, b5, b6, b7] W rfl
    rw [hcel] at this
    exact this
  replace hO := Lib.hid hO
  clear hcel
  go_enter Try.func74, Try.ntmps74
  go_wp2_with (fail)
  refine hR.out.mono ?_
  rintro e w1 ⟨rfl, rfl⟩
  go_wp2_with (fail)
  refine (hO.out _).mono ?_
  rintro e w2 ⟨rfl, hb⟩
  go_wp2_with (fail)
  go_returns
  exact ⟨rfl, hb⟩
end
end Go.Proofs.Ytoaiiimnfgbcaaa
