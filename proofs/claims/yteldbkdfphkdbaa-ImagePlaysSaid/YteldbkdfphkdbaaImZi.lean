import Derived.Test.YteldbkdfphkdbaaImZh
namespace Go.Proofs.Yteldbkdfphkdbaa
open Go.RowKit
set_option linter.unusedVariables false
set_option linter.unusedSimpArgs false
/-! pairs: Move, Put, Load -/
section
variable {w0 : Bas} {p b p2 b2 : Nat} {L : Lay} {B : List UInt8} {o s : Bool} {mode : Int}
theorem two_move (hL : L.ok) (x y n : Int) (hx : -9223372036854775808 ≤ x ∧ x ≤ 9223372036854775807) (hy : -9223372036854775808 ≤ y ∧ y ≤ 9223372036854775807) (hn : n ≤ 9223372036854775807) : ∃ (res : Int) (B' : List UInt8),
    LC w0 p b p2 b2 L 31 #[.pointer (some ⟨p, 0, none⟩), .int .i64 mode, .int .i64 x, .int .i64 y, .int .i64 n] (.int .i64 res) B o s B' o s ∧
    DC w0 p b p2 b2 L 53 #[.pointer (some ⟨p2, 0, none⟩), .int .i64 mode, .int .i64 x, .int .i64 y, .int .i64 n] (.int .i64 res) B o s B' o s := by
  rcases (by omega : n < 0 ∨ n = 0 ∨ 0 < n) with h0 | rfl | h0
  · exact ⟨19, B, fun W1 B2 o2 s2 h => (move_neg x y n h0).mono fun e w' g => ⟨g.1, Lib.hid (by rw [g.2]; exact h)⟩, fun W1 B1 o1 s1 h => (rmove_neg x y n h0).mono fun e w' g => ⟨g.1, Lib.hid (h.bel g.2)⟩⟩
  · exact ⟨0, B, fun W1 B2 o2 s2 h => (move_zero h.im x y).mono fun e w' g => ⟨g.1, Lib.hid (by rw [g.2]; exact h)⟩, fun W1 B1 o1 s1 h => (rmove_zero x y).mono fun e w' g => ⟨g.1, Lib.hid (h.bel g.2)⟩⟩
  · by_cases hok : rowOk L o s mode x n 1 ∧ rowOk L o s mode y n 2
    · obtain ⟨x, rfl⟩ := Int.eq_ofNat_of_zero_le (reg_in hL x hok.1.1).2.2.2
      obtain ⟨y, rfl⟩ := Int.eq_ofNat_of_zero_le (reg_in hL y hok.2.1).2.2.2
      obtain ⟨n, rfl⟩ := Int.eq_ofNat_of_zero_le (Int.le_of_lt h0)
      exact ⟨0, splice B y (rowL B x n), fun W1 B2 o2 s2 h => (move_yes h.im x y n (by omega) hok.1 hok.2).mono fun e w' g => ⟨g.1, Lib.hid (h.leftB g.2.1 g.2.2)⟩, fun W1 B1 o1 s1 h => (rmove_yes h.rf x y n (by omega) hok.1 hok.2).mono fun e w' g => ⟨g.1, Lib.hid (h.rightB g.2.1 g.2.2)⟩⟩
    · exact ⟨5, B, fun W1 B2 o2 s2 h => (move_no h.im x y n h0 hn hx hy hok).mono fun e w' g => ⟨g.1, Lib.hid (by rw [g.2]; exact h)⟩, fun W1 B1 o1 s1 h => (rmove_no h.rf x y n h0 hx hy hok).mono fun e w' g => ⟨g.1, Lib.hid (h.bel g.2)⟩⟩
theorem two_load (S : ByteArray) (hS : S.size ≤ 9223372036854775807) : ∃ (res : Int) (B' : List UInt8),
    LC w0 p b p2 b2 L 29 #[.pointer (some ⟨p, 0, none⟩), .string S] (.int .i64 res) B o s B' o s ∧
    DC w0 p b p2 b2 L 64 #[.pointer (some ⟨p2, 0, none⟩), .string S] (.int .i64 res) B o s B' o s := by
  by_cases hl : S.size ≤ L.to_ 2 - L.from_ 2
  · exact ⟨0, _, fun W1 B2 o2 s2 h => (load_yes h.im S hl).mono fun e w' g => ⟨g.1, Lib.hid (h.leftB g.2.1 g.2.2)⟩, fun W1 B1 o1 s1 h => (rload_yes h.rf S hl).mono fun e w' g => ⟨g.1, Lib.hid (h.rightB g.2.1 g.2.2)⟩⟩
  · exact ⟨2, B, fun W1 B2 o2 s2 h => (load_long h.im S (by omega) hS).mono fun e w' g => ⟨g.1, Lib.hid (by obtain ⟨n, hn⟩ := g.2; rw [hn]; exact h.draws n)⟩, fun W1 B1 o1 s1 h => (rload_long h.rf S (by omega)).mono fun e w' g => ⟨g.1, Lib.hid (h.bel g.2)⟩⟩
end
end Go.Proofs.Yteldbkdfphkdbaa
