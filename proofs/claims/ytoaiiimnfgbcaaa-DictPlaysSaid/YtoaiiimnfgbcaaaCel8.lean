import Derived.Test.YtoaiiimnfgbcaaaOwn
import Derived.Laws.BitsAllLaws
namespace Go.Proofs.Ytoaiiimnfgbcaaa
open Go.RowKit
set_option linter.unusedVariables false
set_option linter.unusedSimpArgs false
/-! eight bytes and a cell (lines of chapter 1's texts, for any seat that reaches cell.Of, cell.Bytes) -/
def isU (x : Int) : Prop := 0 ≤ x ∧ x < 18446744073709551616
def isI (x : Int) : Prop := -9223372036854775808 ≤ x ∧ x < 9223372036854775808
theorem isU_wrap (x : Int) : isU (IntKind.u64.wrap x) := by
  rw [IntKind.wrap_u64]; unfold isU; omega
theorem wrap64_of (x : Int) : IntKind.i64.wrap x = wrap64 x := by rw [IntKind.wrap_i64]; unfold wrap64; omega
theorem wrap64_isI (x : Int) : isI (wrap64 x) := by unfold isI wrap64; omega
theorem toInt_ofInt {a : Int} (h : isI a) : (BitVec.ofInt 64 a).toInt = a := by
  obtain ⟨h0, h1⟩ := h
  rw [BitVec.toInt_ofInt, Int.bmod_def]
  simp only [show ((2 ^ 64 : Nat) : Int) = 18446744073709551616 from rfl]
  split <;> omega
/-- a cell's bytes, the lowest first -/
def byt (a : Int) (k : Nat) : Int := a / 256 ^ k % 256
def bytesV (a : Int) : Value := .agg #[.int .u8 (a % 256), .int .u8 (a / 256 % 256), .int .u8 (a / 65536 % 256), .int .u8 (a / 16777216 % 256), .int .u8 (a / 4294967296 % 256), .int .u8 (a / 1099511627776 % 256), .int .u8 (a / 281474976710656 % 256), .int .u8 (a / 72057594037927936 % 256)]
set_option maxHeartbeats 400000 in
theorem bytes_any (a : Int) (w : World) :
    Calls Try.prog 72 #[.int .i64 a] w fun e w' => e = .returned (bytesV a) ∧ Below w.heap.size w w' := by
  go_enter Try.func72, Try.ntmps72
  go_wp2
  go_rounds 9
  go_returns
  exact ⟨rfl, by go_grown⟩
/-- bytes -/
def isB (x : Int) : Prop := 0 ≤ x ∧ x ≤ 255
def arr8 (b0 b1 b2 b3 b4 b5 b6 b7 : Int) : Value := .agg #[.int .u8 b0, .int .u8 b1, .int .u8 b2, .int .u8 b3, .int .u8 b4, .int .u8 b5, .int .u8 b6, .int .u8 b7]
/-- what the program makes of eight bytes -/
def orN (b0 b1 b2 b3 b4 b5 b6 b7 : Int) : Int := bits BinOp.or IntKind.i64 (bits BinOp.or IntKind.i64 (bits BinOp.or IntKind.i64 (bits BinOp.or IntKind.i64 (bits BinOp.or IntKind.i64 (bits BinOp.or IntKind.i64 (bits BinOp.or IntKind.i64 (bits BinOp.or IntKind.i64 0 b0) (b1 * 256)) (b2 * 65536)) (b3 * 16777216)) (b4 * 4294967296)) (b5 * 1099511627776)) (b6 * 281474976710656)) (wrap64 (b7 * 72057594037927936))
theorem of_any (b0 b1 b2 b3 b4 b5 b6 b7 : Int) (w : World) (h0 : isB b0) (h1 : isB b1) (h2 : isB b2) (h3 : isB b3) (h4 : isB b4) (h5 : isB b5) (h6 : isB b6) (h7 : isB b7) :
    Calls Try.prog 78 #[arr8 b0 b1 b2 b3 b4 b5 b6 b7] w fun e w' => e = .returned (.int .i64 (orN b0 b1 b2 b3 b4 b5 b6 b7)) ∧ Below w.heap.size w w' := by
  obtain ⟨a0, c0⟩ := h0; obtain ⟨a1, c1⟩ := h1; obtain ⟨a2, c2⟩ := h2; obtain ⟨a3, c3⟩ := h3; obtain ⟨a4, c4⟩ := h4; obtain ⟨a5, c5⟩ := h5; obtain ⟨a6, c6⟩ := h6; obtain ⟨a7, c7⟩ := h7
  unfold arr8
  go_enter Try.func78, Try.ntmps78
  go_wp2
  go_rounds 9
  go_returns
  exact ⟨rfl, by go_grown⟩
def hor (b0 b1 b2 b3 b4 b5 b6 b7 : Int) : Int := wrap64 (256 * (256 * (256 * (256 * (256 * (256 * (256 * b7 + b6) + b5) + b4) + b3) + b2) + b1) + b0)
theorem bytesV_U {a : Int} (h : isI a) : bytesV (IntKind.u64.wrap a) = bytesV a := by
  obtain ⟨h0, h1⟩ := h
  have e0 : IntKind.u64.wrap a % 256 = a % 256 := by rw [IntKind.wrap_u64]; omega
  have e1 : IntKind.u64.wrap a / 256 % 256 = a / 256 % 256 := by rw [IntKind.wrap_u64]; omega
  have e2 : IntKind.u64.wrap a / 65536 % 256 = a / 65536 % 256 := by rw [IntKind.wrap_u64]; omega
  have e3 : IntKind.u64.wrap a / 16777216 % 256 = a / 16777216 % 256 := by rw [IntKind.wrap_u64]; omega
  have e4 : IntKind.u64.wrap a / 4294967296 % 256 = a / 4294967296 % 256 := by rw [IntKind.wrap_u64]; omega
  have e5 : IntKind.u64.wrap a / 1099511627776 % 256 = a / 1099511627776 % 256 := by rw [IntKind.wrap_u64]; omega
  have e6 : IntKind.u64.wrap a / 281474976710656 % 256 = a / 281474976710656 % 256 := by rw [IntKind.wrap_u64]; omega
  have e7 : IntKind.u64.wrap a / 72057594037927936 % 256 = a / 72057594037927936 % 256 := by rw [IntKind.wrap_u64]; omega
  unfold bytesV
  rw [e0, e1, e2, e3, e4, e5, e6, e7]
theorem or_nat (a b : Nat) (ha : a < 9223372036854775808) (hb : b < 9223372036854775808) : bits .or .i64 (a : Int) (b : Int) = ((a ||| b : Nat) : Int) := by
  have hx : a ||| b < 2 ^ 63 := Nat.or_lt_two_pow (by omega) (by omega)
  have e : bits .or .i64 (a : Int) (b : Int) = IntKind.i64.wrap ((BitVec.ofInt 64 (a : Int) ||| BitVec.ofInt 64 (b : Int)).toNat : Int) := rfl
  rw [e, BitVec.toNat_or, ofInt_u64 a (by omega), ofInt_u64 b (by omega), IntKind.wrap_i64]
  omega
theorem or_step {x b : Int} (i : Nat) (hi : i ≤ 55) (x0 : 0 ≤ x) (x1 : x < 2 ^ i) (b0 : 0 ≤ b) (b1 : b ≤ 255) : bits .or .i64 x (b * 2 ^ i) = x + b * 2 ^ i := by
  obtain ⟨x, rfl⟩ := Int.eq_ofNat_of_zero_le x0
  obtain ⟨b, rfl⟩ := Int.eq_ofNat_of_zero_le b0
  have hx : x < 2 ^ i := by exact_mod_cast x1
  have hp : 2 ^ i ≤ 2 ^ 55 := Nat.pow_le_pow_right (by decide) hi
  have hb : b * 2 ^ i ≤ 255 * 2 ^ 55 := Nat.mul_le_mul (by omega) hp
  have e : (b : Int) * 2 ^ i = ((b * 2 ^ i : Nat) : Int) := by rw [Int.natCast_mul, Int.natCast_pow]; rfl
  rw [e, or_nat _ _ (by omega) (by omega), Nat.or_comm, nat_join i _ _ (by simp) hx]
  omega
theorem or_top {x b : Int} (x0 : 0 ≤ x) (x1 : x < 72057594037927936) (b0 : 0 ≤ b) (b1 : b ≤ 255) : bits .or .i64 x (wrap64 (b * 72057594037927936)) = wrap64 (x + b * 72057594037927936) := by
  obtain ⟨x, rfl⟩ := Int.eq_ofNat_of_zero_le x0
  obtain ⟨b, rfl⟩ := Int.eq_ofNat_of_zero_le b0
  have e : bits .or .i64 (x : Int) (wrap64 ((b : Int) * 72057594037927936)) = IntKind.i64.wrap ((BitVec.ofInt 64 (x : Int) ||| BitVec.ofInt 64 (wrap64 ((b : Int) * 72057594037927936))).toNat : Int) := rfl
  have e2 : BitVec.ofInt 64 (wrap64 ((b : Int) * 72057594037927936)) = BitVec.ofInt 64 ((b * 72057594037927936 : Nat) : Int) := by
    apply BitVec.eq_of_toInt_eq
    rw [toInt_ofInt (wrap64_isI _), BitVec.toInt_ofInt, Int.bmod_def]
    simp only [show ((2 ^ 64 : Nat) : Int) = 18446744073709551616 from rfl]
    unfold wrap64
    split <;> omega
  rw [e, e2, BitVec.toNat_or, ofInt_u64 x (by omega), ofInt_u64 _ (by omega), Nat.or_comm, nat_join 56 _ _ (by omega) (by omega), wrap64_of]
  congr 1
  omega
theorem or_8 {x b : Int} (x0 : 0 ≤ x) (x1 : x < 256) (b0 : 0 ≤ b) (b1 : b ≤ 255) : bits .or .i64 x (b * 256) = x + b * 256 := by
  have e : (2 : Int) ^ 8 = 256 := by decide +kernel
  have h := or_step (x := x) (b := b) 8 (by decide) x0 (by rw [e]; exact x1) b0 b1
  rw [e] at h
  exact h
theorem or_16 {x b : Int} (x0 : 0 ≤ x) (x1 : x < 65536) (b0 : 0 ≤ b) (b1 : b ≤ 255) : bits .or .i64 x (b * 65536) = x + b * 65536 := by
  have e : (2 : Int) ^ 16 = 65536 := by decide +kernel
  have h := or_step (x := x) (b := b) 16 (by decide) x0 (by rw [e]; exact x1) b0 b1
  rw [e] at h
  exact h
theorem or_24 {x b : Int} (x0 : 0 ≤ x) (x1 : x < 16777216) (b0 : 0 ≤ b) (b1 : b ≤ 255) : bits .or .i64 x (b * 16777216) = x + b * 16777216 := by
  have e : (2 : Int) ^ 24 = 16777216 := by decide +kernel
  have h := or_step (x := x) (b := b) 24 (by decide) x0 (by rw [e]; exact x1) b0 b1
  rw [e] at h
  exact h
theorem or_32 {x b : Int} (x0 : 0 ≤ x) (x1 : x < 4294967296) (b0 : 0 ≤ b) (b1 : b ≤ 255) : bits .or .i64 x (b * 4294967296) = x + b * 4294967296 := by
  have e : (2 : Int) ^ 32 = 4294967296 := by decide +kernel
  have h := or_step (x := x) (b := b) 32 (by decide) x0 (by rw [e]; exact x1) b0 b1
  rw [e] at h
  exact h
theorem or_40 {x b : Int} (x0 : 0 ≤ x) (x1 : x < 1099511627776) (b0 : 0 ≤ b) (b1 : b ≤ 255) : bits .or .i64 x (b * 1099511627776) = x + b * 1099511627776 := by
  have e : (2 : Int) ^ 40 = 1099511627776 := by decide +kernel
  have h := or_step (x := x) (b := b) 40 (by decide) x0 (by rw [e]; exact x1) b0 b1
  rw [e] at h
  exact h
theorem or_48 {x b : Int} (x0 : 0 ≤ x) (x1 : x < 281474976710656) (b0 : 0 ≤ b) (b1 : b ≤ 255) : bits .or .i64 x (b * 281474976710656) = x + b * 281474976710656 := by
  have e : (2 : Int) ^ 48 = 281474976710656 := by decide +kernel
  have h := or_step (x := x) (b := b) 48 (by decide) x0 (by rw [e]; exact x1) b0 b1
  rw [e] at h
  exact h
theorem or_0 {b : Int} (b0 : 0 ≤ b) (b1 : b ≤ 255) : bits .or .i64 0 b = b := by
  have h := or_step (x := 0) (b := b) 0 (by decide) (by omega) (by decide) b0 b1
  rw [Int.pow_zero, Int.mul_one, Int.zero_add] at h
  exact h
theorem of_is {b0 b1 b2 b3 b4 b5 b6 b7 : Int} (h0 : isB b0) (h1 : isB b1) (h2 : isB b2) (h3 : isB b3) (h4 : isB b4) (h5 : isB b5) (h6 : isB b6) (h7 : isB b7) : orN b0 b1 b2 b3 b4 b5 b6 b7 = hor b0 b1 b2 b3 b4 b5 b6 b7 := by
  unfold isB at *
  unfold orN hor
  rw [or_0 (by omega) (by omega), or_8 (by omega) (by omega) (by omega) (by omega), or_16 (by omega) (by omega) (by omega) (by omega), or_24 (by omega) (by omega) (by omega) (by omega),
    or_32 (by omega) (by omega) (by omega) (by omega), or_40 (by omega) (by omega) (by omega) (by omega), or_48 (by omega) (by omega) (by omega) (by omega), or_top (by omega) (by omega) (by omega) (by omega)]
  congr 1
  omega
theorem of_at (b0 b1 b2 b3 b4 b5 b6 b7 : Int) (w : World) (h0 : isB b0) (h1 : isB b1) (h2 : isB b2) (h3 : isB b3) (h4 : isB b4) (h5 : isB b5) (h6 : isB b6) (h7 : isB b7) :
    Calls Try.prog 78 #[arr8 b0 b1 b2 b3 b4 b5 b6 b7] w fun e w' => e = .returned (.int .i64 (hor b0 b1 b2 b3 b4 b5 b6 b7)) ∧ Below w.heap.size w w' := by
  have k := of_any b0 b1 b2 b3 b4 b5 b6 b7 w h0 h1 h2 h3 h4 h5 h6 h7
  rw [of_is h0 h1 h2 h3 h4 h5 h6 h7] at k
  exact k
theorem byteB_is (x : Int) : isB (x % 256) := by unfold isB; omega
theorem back_of {a : Int} (h : isI a) : hor (a % 256) (a / 256 % 256) (a / 65536 % 256) (a / 16777216 % 256) (a / 4294967296 % 256) (a / 1099511627776 % 256) (a / 281474976710656 % 256) (a / 72057594037927936 % 256) = a := by
  obtain ⟨h0, h1⟩ := h
  unfold hor wrap64
  omega
/-! the same, over lists of bytes -/
/-- a cell's bytes -/
def by8 (v : Int) : List UInt8 := (List.range 8).map fun i => UInt8.ofNat (v / 256 ^ i % 256).toNat
theorem by8_length (v : Int) : (by8 v).length = 8 := rfl
theorem by8_is (v : Int) : u8s (by8 v) = [.int .u8 (v % 256), .int .u8 (v / 256 % 256), .int .u8 (v / 65536 % 256), .int .u8 (v / 16777216 % 256), .int .u8 (v / 4294967296 % 256), .int .u8 (v / 1099511627776 % 256), .int .u8 (v / 281474976710656 % 256), .int .u8 (v / 72057594037927936 % 256)] := by
  have k : ∀ x : Int, ((UInt8.ofNat (x % 256).toNat).toNat : Int) = x % 256 := fun x => by simp; omega
  have p : (256 : Int) ^ 2 = 65536 ∧ (256 : Int) ^ 3 = 16777216 ∧ (256 : Int) ^ 4 = 4294967296 ∧ (256 : Int) ^ 5 = 1099511627776 ∧ (256 : Int) ^ 6 = 281474976710656 ∧ (256 : Int) ^ 7 = 72057594037927936 := by decide +kernel
  obtain ⟨p2, p3, p4, p5, p6, p7⟩ := p
  have e : by8 v = [UInt8.ofNat (v % 256).toNat, UInt8.ofNat (v / 256 % 256).toNat, UInt8.ofNat (v / 65536 % 256).toNat, UInt8.ofNat (v / 16777216 % 256).toNat, UInt8.ofNat (v / 4294967296 % 256).toNat, UInt8.ofNat (v / 1099511627776 % 256).toNat, UInt8.ofNat (v / 281474976710656 % 256).toNat, UInt8.ofNat (v / 72057594037927936 % 256).toNat] := by
    unfold by8
    simp only [List.range, List.range.loop, List.map_cons, List.map_nil, Int.pow_zero, Int.pow_one, Int.ediv_one, p2, p3, p4, p5, p6, p7]
  rw [e]
  unfold u8s
  simp only [List.map_cons, List.map_nil, k]
theorem by8_V (v : Int) : bytesV v = .agg (u8s (by8 v)).toArray := by rw [by8_is]; rfl
/-- the cell that eight bytes of a list make, from place i on -/
def cel (l : List UInt8) (i : Nat) : Int := hor (l.getD i 0).toNat (l.getD (i + 1) 0).toNat (l.getD (i + 2) 0).toNat (l.getD (i + 3) 0).toNat (l.getD (i + 4) 0).toNat (l.getD (i + 5) 0).toNat (l.getD (i + 6) 0).toNat (l.getD (i + 7) 0).toNat
theorem cel_isI (l : List UInt8) (i : Nat) : isI (cel l i) := wrap64_isI _
theorem cel_congr (l m : List UInt8) (i j : Nat) (h : ∀ k, k < 8 → l.getD (i + k) 0 = m.getD (j + k) 0) : cel l i = cel m j := by
  unfold cel
  have h0 := h 0 (by decide)
  simp only [Nat.add_zero] at h0
  rw [h0, h 1 (by decide), h 2 (by decide), h 3 (by decide), h 4 (by decide), h 5 (by decide), h 6 (by decide), h 7 (by decide)]
theorem cel_by8 (v : Int) (h : isI v) : cel (by8 v) 0 = v := by
  have k : ∀ i, i < 8 → (((by8 v).getD i 0).toNat : Int) = v / 256 ^ i % 256 := fun i hi => by
    rw [List.getD_eq_getElem?_getD, List.getElem?_eq_getElem (by rw [by8_length]; exact hi)]
    simp [by8]; omega
  have p : (256 : Int) ^ 2 = 65536 ∧ (256 : Int) ^ 3 = 16777216 ∧ (256 : Int) ^ 4 = 4294967296 ∧ (256 : Int) ^ 5 = 1099511627776 ∧ (256 : Int) ^ 6 = 281474976710656 ∧ (256 : Int) ^ 7 = 72057594037927936 := by decide +kernel
  obtain ⟨p2, p3, p4, p5, p6, p7⟩ := p
  have hb := back_of h
  unfold cel
  rw [k 0 (by decide), k (0 + 1) (by decide), k (0 + 2) (by decide), k (0 + 3) (by decide), k (0 + 4) (by decide), k (0 + 5) (by decide), k (0 + 6) (by decide), k (0 + 7) (by decide)]
  simp only [Nat.zero_add, Int.pow_zero, Int.pow_one, Int.ediv_one, p2, p3, p4, p5, p6, p7]
  exact hb
theorem bytes8 (v : Int) (w : World) : Calls Try.prog 72 #[.int .i64 v] w fun e w' => e = .returned (.agg (u8s (by8 v)).toArray) ∧ Below w.heap.size w w' := by
  rw [← by8_V]; exact bytes_any v w
theorem u8_isB (c : UInt8) : isB (c.toNat : Int) := by have := c.toNat_lt; unfold isB; omega
theorem list8 (l : List UInt8) (h : l.length = 8) : ∃ b0 b1 b2 b3 b4 b5 b6 b7, l = [b0, b1, b2, b3, b4, b5, b6, b7] := by
  match l, h with
  | [b0, b1, b2, b3, b4, b5, b6, b7], _ => exact ⟨b0, b1, b2, b3, b4, b5, b6, b7, rfl⟩
theorem of8 (l : List UInt8) (w : World) (h : l.length = 8) : Calls Try.prog 78 #[.agg (u8s l).toArray] w fun e w' => e = .returned (.int .i64 (cel l 0)) ∧ Below w.heap.size w w' := by
  obtain ⟨b0, b1, b2, b3, b4, b5, b6, b7, rfl⟩ := list8 l h
  exact of_at _ _ _ _ _ _ _ _ w (u8_isB b0) (u8_isB b1) (u8_isB b2) (u8_isB b3) (u8_isB b4) (u8_isB b5) (u8_isB b6) (u8_isB b7)
end Go.Proofs.Ytoaiiimnfgbcaaa
