import Derived.Test.YtfifbkcgaohhbaaProg
import Derived.Test.YtfifbkcgaohhbaaShelf
import Derived.WalkKit
import Derived.WalkSpells
import Derived.WalkLawsBesides
import Derived.Deep.QuietTactic
import Derived.BigQuiet
import Derived.Handy
namespace Go.Proofs.Ytfifbkcgaohhbaa
open Go.RowKit

/-- the two halves of a product of words; the upper one, the lower one -/
def hi64 (x y : Int) : Int := x * y / 18446744073709551616
def lo64 (x y : Int) : Int := x * y % 18446744073709551616
/-- a number lies in a word without a sign -/
def isU (x : Int) : Prop := 0 ≤ x ∧ x < 18446744073709551616
def isI (x : Int) : Prop := -9223372036854775808 ≤ x ∧ x < 9223372036854775808
theorem isU_wrap (x : Int) : isU (IntKind.u64.wrap x) := by
  rw [IntKind.wrap_u64]; unfold isU; omega

theorem mul64 (x y : Int) (w : World) (hx : isU x) (hy : isU y) :
    Calls Try.prog 38 #[.int .u64 x, .int .u64 y] w fun e w' => e = .returned (.tuple #[.int .u64 (hi64 x y), .int .u64 (lo64 x y)]) ∧ w' = w := by
  obtain ⟨h0, h1⟩ := hx
  obtain ⟨h2, h3⟩ := hy
  obtain ⟨x, rfl⟩ := Int.eq_ofNat_of_zero_le h0
  obtain ⟨y, rfl⟩ := Int.eq_ofNat_of_zero_le h2
  exact Try.bits_Mul64 x y (by omega) (by omega) w

theorem bcell {W w1 : World} (hb : Below W.heap.size W w1) : (∀ b o, b < W.heap.size → w1.cell? ⟨b, o, none⟩ = W.cell? ⟨b, o, none⟩) ∧ (∀ b o, b < W.heap.size → w1.frozen? ⟨b, o, none⟩ = W.frozen? ⟨b, o, none⟩) :=
  ⟨fun b o h => hb.cell (p := ⟨b, o, none⟩) h, fun b o h => hb.frozen (p := ⟨b, o, none⟩) h⟩
theorem bsize {W w1 : World} {n : Nat} (hb : Below W.heap.size W w1) (h : n < W.heap.size) : n < w1.heap.size := Nat.lt_of_lt_of_le h hb.size

set_option maxHeartbeats 400000 in
theorem utimes (a b : Int) (w : World) :
    Calls Try.prog 19 #[.int .i64 a, .int .i64 b] w fun e w' => e = .returned (.agg #[.int .i64 (wrap64 (lo64 (IntKind.u64.wrap a) (IntKind.u64.wrap b))), .int .i64 (wrap64 (hi64 (IntKind.u64.wrap a) (IntKind.u64.wrap b)))]) ∧ Below w.heap.size w w' := by
  go_enter Try.func19, Try.ntmps19
  go_wp2_with (go_at_call 38; refine (mul64 _ _ _ (isU_wrap _) (isU_wrap _)).mono ?_; rintro e w' ⟨rfl, rfl⟩)
  go_returns
  exact ⟨rfl, by go_grown⟩

/-- the upper half of a product with signs, as the walk spells it -/
def tHi (a b : Int) : Int := wrap64 (wrap64 (hi64 (IntKind.u64.wrap a) (IntKind.u64.wrap b)) - wrap64 (bits BinOp.and IntKind.i64 (a / 9223372036854775808) b + bits BinOp.and IntKind.i64 (b / 9223372036854775808) a))

set_option maxHeartbeats 400000 in
theorem times (a b : Int) (w : World) :
    Calls Try.prog 16 #[.int .i64 a, .int .i64 b] w fun e w' => e = .returned (.agg #[.int .i64 (wrap64 (lo64 (IntKind.u64.wrap a) (IntKind.u64.wrap b))), .int .i64 (tHi a b)]) ∧ Below w.heap.size w w' := by
  go_enter Try.func16, Try.ntmps16
  go_wp2_with (fail)
  refine (utimes _ _ _).mono ?_
  rintro e w1 ⟨rfl, hb⟩
  obtain ⟨hc, hf⟩ := bcell hb
  have hz : w.heap.size < w1.heap.size := bsize hb (by simp)
  have hB : Below w.heap.size w w1 := ((Below.refl _ _).alloc (Nat.le_refl _) _).trans (hb.mono (by simp))
  go_wp2
  refine bodyPost_ret (by simp [results, Try.results16, go_sem, hc, hz]; rfl) rfl ?_
  exact ⟨rfl, by go_grown⟩

theorem below_any (a b : Int) (w : World) :
    Calls Try.prog 25 #[.int .i64 a, .int .i64 b] w fun e w' => e = .returned (.bool (decide (IntKind.u64.wrap a < IntKind.u64.wrap b))) ∧ w' = w := by
  go_enter Try.func25, Try.ntmps25
  go_wp2
  go_returns
  exact ⟨rfl, rfl⟩
theorem rbelow_any (a b : Int) (w : World) :
    Calls Try.prog 26 #[.int .i64 a, .int .i64 b] w fun e w' => e = .returned (.bool (decide (IntKind.u64.wrap a < IntKind.u64.wrap b))) ∧ w' = w := by
  go_enter Try.func26, Try.ntmps26
  go_wp2
  go_returns
  exact ⟨rfl, rfl⟩
def flg (b : Bool) : Int := if b then -1 else 0
theorem flag_any (b : Bool) (w : World) :
    Calls Try.prog 27 #[.bool b] w fun e w' => e = .returned (.int .i64 (flg b)) ∧ w' = w := by
  cases b <;>
  · go_enter Try.func27, Try.ntmps27
    go_wp2
    go_returns
    exact ⟨rfl, rfl⟩
theorem rflag_any (b : Bool) (w : World) :
    Calls Try.prog 28 #[.bool b] w fun e w' => e = .returned (.int .i64 (flg b)) ∧ w' = w := by
  cases b <;>
  · go_enter Try.func28, Try.ntmps28
    go_wp2
    go_returns
    exact ⟨rfl, rfl⟩
theorem left_neg (a n : Int) (w : World) (h : n < 0) :
    Calls Try.prog 21 #[.int .i64 a, .int .i64 n] w fun e w' => e = .returned (.int .i64 0) ∧ w' = w := by
  go_enter Try.func21, Try.ntmps21
  go_wp2
  go_returns
  exact ⟨rfl, rfl⟩
theorem wrap64_of (x : Int) : IntKind.i64.wrap x = wrap64 x := by rw [IntKind.wrap_i64]; unfold wrap64; omega
/-- a cell moved to the left, to the right -/
def shl (a n : Int) : Int := if n < 0 then 0 else wrap64 (a * 2 ^ min n.toNat 64)
def shr (a n : Int) : Int := if n < 0 then 0 else wrap64 (IntKind.u64.wrap a / 2 ^ min n.toNat 64)
theorem left_any (a n : Int) (w : World) :
    Calls Try.prog 21 #[.int .i64 a, .int .i64 n] w fun e w' => e = .returned (.int .i64 (shl a n)) ∧ w' = w := by
  by_cases h : n < 0
  · refine (left_neg a n w h).mono fun e w' ⟨he, hw⟩ => ⟨?_, hw⟩
    rw [he, shl, if_pos h]
  · go_enter Try.func21, Try.ntmps21
    go_wp2
    go_returns
    exact ⟨by rw [shl, if_neg (Int.not_lt.2 h)]; exact congrArg (fun x => Ending.returned (.int .i64 x)) (wrap64_of _), rfl⟩
theorem right_any (a n : Int) (w : World) :
    Calls Try.prog 23 #[.int .i64 a, .int .i64 n] w fun e w' => e = .returned (.int .i64 (shr a n)) ∧ w' = w := by
  by_cases h : n < 0
  · go_enter Try.func23, Try.ntmps23
    go_wp2
    go_returns
    exact ⟨by rw [shr, if_pos h]; rfl, rfl⟩
  · go_enter Try.func23, Try.ntmps23
    go_wp2
    go_returns
    exact ⟨by rw [shr, if_neg (Int.not_lt.2 h)]; rfl, rfl⟩
/-- a cell's bytes, the lowest first -/
def byt (a : Int) (k : Nat) : Int := a / 256 ^ k % 256
def bytesV (a : Int) : Value := .agg #[.int .u8 (a % 256), .int .u8 (a / 256 % 256), .int .u8 (a / 65536 % 256), .int .u8 (a / 16777216 % 256), .int .u8 (a / 4294967296 % 256), .int .u8 (a / 1099511627776 % 256), .int .u8 (a / 281474976710656 % 256), .int .u8 (a / 72057594037927936 % 256)]
set_option maxHeartbeats 400000 in
theorem bytes_any (a : Int) (w : World) :
    Calls Try.prog 29 #[.int .i64 a] w fun e w' => e = .returned (bytesV a) ∧ Below w.heap.size w w' := by
  go_enter Try.func29, Try.ntmps29
  go_wp2
  go_rounds 9
  go_returns
  exact ⟨rfl, by go_grown⟩
theorem bytesV_steps (u : Int) : Value.agg #[.int .u8 (u % 256), .int .u8 (u / 256 % 256), .int .u8 (u / 256 / 256 % 256), .int .u8 (u / 256 / 256 / 256 % 256), .int .u8 (u / 256 / 256 / 256 / 256 % 256), .int .u8 (u / 256 / 256 / 256 / 256 / 256 % 256), .int .u8 (u / 256 / 256 / 256 / 256 / 256 / 256 % 256), .int .u8 (u / 256 / 256 / 256 / 256 / 256 / 256 / 256 % 256)] = bytesV u := by
  have e2 : u / 256 / 256 = u / 65536 := by omega
  have e3 : u / 65536 / 256 = u / 16777216 := by omega
  have e4 : u / 16777216 / 256 = u / 4294967296 := by omega
  have e5 : u / 4294967296 / 256 = u / 1099511627776 := by omega
  have e6 : u / 1099511627776 / 256 = u / 281474976710656 := by omega
  have e7 : u / 281474976710656 / 256 = u / 72057594037927936 := by omega
  rw [e2, e3, e4, e5, e6, e7]; rfl
theorem rbytes_any (a : Int) (w : World) :
    Calls Try.prog 30 #[.int .i64 a] w fun e w' => e = .returned (bytesV (IntKind.u64.wrap a)) ∧ Below w.heap.size w w' := by
  obtain ⟨h0, h1⟩ := isU_wrap a
  have h2 : IntKind.u64.wrap a ≤ 18446744073709551615 := by omega
  clear h1
  go_enter Try.func30, Try.ntmps30
  go_wp2
  go_rounds 9
  go_returns
  refine ⟨?_, by go_grown⟩
  exact congrArg Ending.returned (bytesV_steps _)
/-- bytes -/
def isB (x : Int) : Prop := 0 ≤ x ∧ x ≤ 255
def arr8 (b0 b1 b2 b3 b4 b5 b6 b7 : Int) : Value := .agg #[.int .u8 b0, .int .u8 b1, .int .u8 b2, .int .u8 b3, .int .u8 b4, .int .u8 b5, .int .u8 b6, .int .u8 b7]
/-- what the program makes of eight bytes -/
def orN (b0 b1 b2 b3 b4 b5 b6 b7 : Int) : Int := bits BinOp.or IntKind.i64 (bits BinOp.or IntKind.i64 (bits BinOp.or IntKind.i64 (bits BinOp.or IntKind.i64 (bits BinOp.or IntKind.i64 (bits BinOp.or IntKind.i64 (bits BinOp.or IntKind.i64 (bits BinOp.or IntKind.i64 0 b0) (b1 * 256)) (b2 * 65536)) (b3 * 16777216)) (b4 * 4294967296)) (b5 * 1099511627776)) (b6 * 281474976710656)) (wrap64 (b7 * 72057594037927936))
theorem of_any (b0 b1 b2 b3 b4 b5 b6 b7 : Int) (w : World) (h0 : isB b0) (h1 : isB b1) (h2 : isB b2) (h3 : isB b3) (h4 : isB b4) (h5 : isB b5) (h6 : isB b6) (h7 : isB b7) :
    Calls Try.prog 31 #[arr8 b0 b1 b2 b3 b4 b5 b6 b7] w fun e w' => e = .returned (.int .i64 (orN b0 b1 b2 b3 b4 b5 b6 b7)) ∧ Below w.heap.size w w' := by
  obtain ⟨a0, c0⟩ := h0; obtain ⟨a1, c1⟩ := h1; obtain ⟨a2, c2⟩ := h2; obtain ⟨a3, c3⟩ := h3; obtain ⟨a4, c4⟩ := h4; obtain ⟨a5, c5⟩ := h5; obtain ⟨a6, c6⟩ := h6; obtain ⟨a7, c7⟩ := h7
  unfold arr8
  go_enter Try.func31, Try.ntmps31
  go_wp2
  go_rounds 9
  go_returns
  exact ⟨rfl, by go_grown⟩
def hor (b0 b1 b2 b3 b4 b5 b6 b7 : Int) : Int := wrap64 (256 * (256 * (256 * (256 * (256 * (256 * (256 * b7 + b6) + b5) + b4) + b3) + b2) + b1) + b0)
theorem rof_any (b0 b1 b2 b3 b4 b5 b6 b7 : Int) (w : World) (h0 : isB b0) (h1 : isB b1) (h2 : isB b2) (h3 : isB b3) (h4 : isB b4) (h5 : isB b5) (h6 : isB b6) (h7 : isB b7) :
    Calls Try.prog 32 #[arr8 b0 b1 b2 b3 b4 b5 b6 b7] w fun e w' => e = .returned (.int .i64 (hor b0 b1 b2 b3 b4 b5 b6 b7)) ∧ Below w.heap.size w w' := by
  obtain ⟨a0, c0⟩ := h0; obtain ⟨a1, c1⟩ := h1; obtain ⟨a2, c2⟩ := h2; obtain ⟨a3, c3⟩ := h3; obtain ⟨a4, c4⟩ := h4; obtain ⟨a5, c5⟩ := h5; obtain ⟨a6, c6⟩ := h6; obtain ⟨a7, c7⟩ := h7
  unfold arr8
  go_enter Try.func32, Try.ntmps32
  go_wp2
  go_rounds 9
  go_returns
  exact ⟨rfl, by go_grown⟩
end Go.Proofs.Ytfifbkcgaohhbaa
