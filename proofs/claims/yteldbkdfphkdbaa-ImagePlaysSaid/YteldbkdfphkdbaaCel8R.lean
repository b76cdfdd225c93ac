import Derived.Test.YteldbkdfphkdbaaCel8
namespace Go.Proofs.Yteldbkdfphkdbaa
open Go.RowKit
set_option linter.unusedVariables false
set_option linter.unusedSimpArgs false
/-! the document's eight bytes -/
theorem bytesV_steps (u : Int) : Value.agg #[.int .u8 (u % 256), .int .u8 (u / 256 % 256), .int .u8 (u / 256 / 256 % 256), .int .u8 (u / 256 / 256 / 256 % 256), .int .u8 (u / 256 / 256 / 256 / 256 % 256), .int .u8 (u / 256 / 256 / 256 / 256 / 256 % 256), .int .u8 (u / 256 / 256 / 256 / 256 / 256 / 256 % 256), .int .u8 (u / 256 / 256 / 256 / 256 / 256 / 256 / 256 % 256)] = bytesV u := by
  have e2 : u / 256 / 256 = u / 65536 := by omega
  have e3 : u / 65536 / 256 = u / 16777216 := by omega
  have e4 : u / 16777216 / 256 = u / 4294967296 := by omega
  have e5 : u / 4294967296 / 256 = u / 1099511627776 := by omega
  have e6 : u / 1099511627776 / 256 = u / 281474976710656 := by omega
  have e7 : u / 281474976710656 / 256 = u / 72057594037927936 := by omega
  rw [e2, e3, e4, e5, e6, e7]; rfl
theorem rbytes_any (a : Int) (w : World) :
    Calls Try.prog 61 #[.int .i64 a] w fun e w' => e = .returned (bytesV (IntKind.u64.wrap a)) ∧ Below w.heap.size w w' := by
  obtain ⟨h0, h1⟩ := isU_wrap a
  have h2 : IntKind.u64.wrap a ≤ 18446744073709551615 := by omega
  clear h1
  go_enter Try.func61, Try.ntmps61
  go_wp2
  go_rounds 9
  go_returns
  refine ⟨?_, by go_grown⟩
  exact congrArg Ending.returned (bytesV_steps _)
theorem rof_any (b0 b1 b2 b3 b4 b5 b6 b7 : Int) (w : World) (h0 : isB b0) (h1 : isB b1) (h2 : isB b2) (h3 : isB b3) (h4 : isB b4) (h5 : isB b5) (h6 : isB b6) (h7 : isB b7) :
    Calls Try.prog 60 #[arr8 b0 b1 b2 b3 b4 b5 b6 b7] w fun e w' => e = .returned (.int .i64 (hor b0 b1 b2 b3 b4 b5 b6 b7)) ∧ Below w.heap.size w w' := by
  obtain ⟨a0, c0⟩ := h0; obtain ⟨a1, c1⟩ := h1; obtain ⟨a2, c2⟩ := h2; obtain ⟨a3, c3⟩ := h3; obtain ⟨a4, c4⟩ := h4; obtain ⟨a5, c5⟩ := h5; obtain ⟨a6, c6⟩ := h6; obtain ⟨a7, c7⟩ := h7
  unfold arr8
  go_enter Try.func60, Try.ntmps60
  go_wp2
  go_rounds 9
  go_returns
  exact ⟨rfl, by go_grown⟩
theorem rbytes_is (a : Int) (w : World) (h : isI a) :
    Calls Try.prog 61 #[.int .i64 a] w fun e w' => e = .returned (bytesV a) ∧ Below w.heap.size w w' := by
  have k := rbytes_any a w
  rw [bytesV_U h] at k
  exact k
theorem rbytes8 (v : Int) (w : World) (h : isI v) : Calls Try.prog 61 #[.int .i64 v] w fun e w' => e = .returned (.agg (u8s (by8 v)).toArray) ∧ Below w.heap.size w w' := by rw [← by8_V]; exact rbytes_is v w h
theorem rof8 (l : List UInt8) (w : World) (h : l.length = 8) : Calls Try.prog 60 #[.agg (u8s l).toArray] w fun e w' => e = .returned (.int .i64 (cel l 0)) ∧ Below w.heap.size w w' := by
  obtain ⟨b0, b1, b2, b3, b4, b5, b6, b7, rfl⟩ := list8 l h
  exact rof_any _ _ _ _ _ _ _ _ w (u8_isB b0) (u8_isB b1) (u8_isB b2) (u8_isB b3) (u8_isB b4) (u8_isB b5) (u8_isB b6) (u8_isB b7)
end Go.Proofs.Yteldbkdfphkdbaa
