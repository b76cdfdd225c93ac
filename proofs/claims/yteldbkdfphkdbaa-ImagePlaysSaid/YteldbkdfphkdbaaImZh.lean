import Derived.Test.YteldbkdfphkdbaaImZg
namespace Go.Proofs.Yteldbkdfphkdbaa
open Go.RowKit
set_option linter.unusedVariables false
set_option linter.unusedSimpArgs false
/-! pairs: Text, Move, Fill, Part -/
section
variable {w0 : Bas} {p b p2 b2 : Nat} {L : Lay} {B : List UInt8} {o s : Bool} {mode : Int}
theorem two_text (hL : L.ok) (a n : Int) (ha : -9223372036854775808 ≤ a ∧ a ≤ 9223372036854775807) (hn : n ≤ 9223372036854775807) : ∃ (T : ByteArray) (res : Int),
    LC w0 p b p2 b2 L 30 #[.pointer (some ⟨p, 0, none⟩), .int .i64 mode, .int .i64 a, .int .i64 n] (.tuple #[.string T, .int .i64 res]) B o s B o s ∧
    DC w0 p b p2 b2 L 52 #[.pointer (some ⟨p2, 0, none⟩), .int .i64 mode, .int .i64 a, .int .i64 n] (.tuple #[.string T, .int .i64 res]) B o s B o s := by
  rcases (by omega : n < 0 ∨ n = 0 ∨ 0 < n) with h0 | rfl | h0
  · exact ⟨_, 19, fun W1 B2 o2 s2 h => (text_neg a n h0).mono fun e w' g => ⟨g.1, Lib.hid (by rw [g.2]; exact h)⟩, fun W1 B1 o1 s1 h => (rtext_neg a n h0).mono fun e w' g => ⟨g.1, Lib.hid (h.bel g.2)⟩⟩
  · exact ⟨_, 0, fun W1 B2 o2 s2 h => (text_zero h.im a).mono fun e w' g => ⟨g.1, Lib.hid (by rw [g.2]; exact h)⟩, fun W1 B1 o1 s1 h => (rtext_zero a).mono fun e w' g => ⟨g.1, Lib.hid (h.bel g.2)⟩⟩
  · by_cases hok : rowOk L o s mode a n 1
    · obtain ⟨a, rfl⟩ := Int.eq_ofNat_of_zero_le (reg_in hL a hok.1).2.2.2
      obtain ⟨n, rfl⟩ := Int.eq_ofNat_of_zero_le (Int.le_of_lt h0)
      exact ⟨_, 0, fun W1 B2 o2 s2 h => (text_yes h.im a n (by omega) hok).mono fun e w' g => ⟨g.1, Lib.hid (by rw [g.2]; exact h)⟩, fun W1 B1 o1 s1 h => (rtext_yes h.rf a n (by omega) hok).mono fun e w' g => ⟨g.1, Lib.hid (h.bel g.2)⟩⟩
    · exact ⟨_, 5, fun W1 B2 o2 s2 h => (text_no h.im a n h0 hn ha hok).mono fun e w' g => ⟨g.1, Lib.hid (by rw [g.2]; exact h)⟩, fun W1 B1 o1 s1 h => (rtext_no h.rf a n h0 ha hok).mono fun e w' g => ⟨g.1, Lib.hid (h.bel g.2)⟩⟩
theorem two_fill (hL : L.ok) (a n : Int) (c : UInt8) (ha : -9223372036854775808 ≤ a ∧ a ≤ 9223372036854775807) (hn : n ≤ 9223372036854775807) : ∃ (res : Int) (B' : List UInt8),
    LC w0 p b p2 b2 L 46 #[.pointer (some ⟨p, 0, none⟩), .int .i64 mode, .int .i64 a, .int .i64 n, .int .u8 (c.toNat : Int)] (.int .i64 res) B o s B' o s ∧
    DC w0 p b p2 b2 L 54 #[.pointer (some ⟨p2, 0, none⟩), .int .i64 mode, .int .i64 a, .int .i64 n, .int .u8 (c.toNat : Int)] (.int .i64 res) B o s B' o s := by
  rcases (by omega : n < 0 ∨ n = 0 ∨ 0 < n) with h0 | rfl | h0
  · exact ⟨19, B, fun W1 B2 o2 s2 h => (fill_neg a n c h0).mono fun e w' g => ⟨g.1, Lib.hid (by rw [g.2]; exact h)⟩, fun W1 B1 o1 s1 h => (rfill_neg a n _ h0).mono fun e w' g => ⟨g.1, Lib.hid (h.bel g.2)⟩⟩
  · exact ⟨0, B, fun W1 B2 o2 s2 h => (fill_zero h.im a c).mono fun e w' g => ⟨g.1, Lib.hid (h.bel g.2)⟩, fun W1 B1 o1 s1 h => (rfill_zero a _).mono fun e w' g => ⟨g.1, Lib.hid (h.bel g.2)⟩⟩
  · by_cases hok : rowOk L o s mode a n 2
    · obtain ⟨a, rfl⟩ := Int.eq_ofNat_of_zero_le (reg_in hL a hok.1).2.2.2
      obtain ⟨n, rfl⟩ := Int.eq_ofNat_of_zero_le (Int.le_of_lt h0)
      exact ⟨0, splice B a (List.replicate n c), fun W1 B2 o2 s2 h => (fill_yes h.im a n c (by omega) hok).mono fun e w' g => ⟨g.1, Lib.hid (h.leftB g.2.1 g.2.2)⟩, fun W1 B1 o1 s1 h => (rfill_yes h.rf a n c (by omega) hok).mono fun e w' g => ⟨g.1, Lib.hid (h.rightB g.2.1 g.2.2)⟩⟩
    · exact ⟨5, B, fun W1 B2 o2 s2 h => (fill_no h.im a n c h0 hn ha hok).mono fun e w' g => ⟨g.1, Lib.hid (by rw [g.2]; exact h)⟩, fun W1 B1 o1 s1 h => (rfill_no h.rf a n _ h0 ha hok).mono fun e w' g => ⟨g.1, Lib.hid (h.bel g.2)⟩⟩
theorem two_part (r : Int) : ∃ T : ByteArray,
    LC w0 p b p2 b2 L 27 #[.pointer (some ⟨p, 0, none⟩), .int .i64 r] (.string T) B o s B o s ∧
    DC w0 p b p2 b2 L 56 #[.pointer (some ⟨p2, 0, none⟩), .int .i64 r] (.string T) B o s B o s :=
  ⟨⟨(partL L B r).toArray⟩, fun W1 B2 o2 s2 h => (Part_any h.im r).mono fun e w' g => ⟨g.1, Lib.hid (by obtain ⟨n, hn⟩ := g.2; rw [hn]; exact h.draws n)⟩, fun W1 B1 o1 s1 h => (rpart_any h.rf r).mono fun e w' g => ⟨g.1, Lib.hid (h.bel g.2)⟩⟩
end
end Go.Proofs.Yteldbkdfphkdbaa
