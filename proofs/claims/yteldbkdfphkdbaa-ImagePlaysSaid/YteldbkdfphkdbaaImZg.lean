import Derived.Test.YteldbkdfphkdbaaImZf
namespace Go.Proofs.Yteldbkdfphkdbaa
open Go.RowKit
set_option linter.unusedVariables false
set_option linter.unusedSimpArgs false
/-! each operation, done with both images: the same answer, the same bytes -/
section
variable (w0 : Bas) (p b p2 b2 : Nat) (L : Lay)
/-- a contract of the program's image that leaves the document's as it is -/
def LC (fn : FuncId) (args : Array Value) (res : Value) (B : List UInt8) (o s : Bool) (B' : List UInt8) (o' s' : Bool) : Prop :=
  ∀ W1 B2 o2 s2, Tw w0 W1 p b p2 b2 L B o s B2 o2 s2 → Calls Try.prog fn args W1 fun e w' => e = .returned res ∧ Hid (Tw w0 w' p b p2 b2 L B' o' s' B2 o2 s2)
/-- .. of the document's image that leaves the program's as it is -/
def DC (fn : FuncId) (args : Array Value) (res : Value) (B : List UInt8) (o s : Bool) (B' : List UInt8) (o' s' : Bool) : Prop :=
  ∀ W1 B1 o1 s1, Tw w0 W1 p b p2 b2 L B1 o1 s1 B o s → Calls Try.prog fn args W1 fun e w' => e = .returned res ∧ Hid (Tw w0 w' p b p2 b2 L B1 o1 s1 B' o' s')
end
section
variable {w0 : Bas} {p b p2 b2 : Nat} {L : Lay} {B : List UInt8} {o s : Bool} {mode : Int}
theorem two_setbyte (hL : L.ok) (a : Int) (ha : -9223372036854775808 ≤ a ∧ a ≤ 9223372036854775807) (c : UInt8) : ∃ (res : Int) (B' : List UInt8),
    LC w0 p b p2 b2 L 26 #[.pointer (some ⟨p, 0, none⟩), .int .i64 mode, .int .i64 a, .int .u8 (c.toNat : Int)] (.int .i64 res) B o s B' o s ∧
    DC w0 p b p2 b2 L 49 #[.pointer (some ⟨p2, 0, none⟩), .int .i64 mode, .int .i64 a, .int .u8 (c.toNat : Int)] (.int .i64 res) B o s B' o s := by
  by_cases hok : rowOk L o s mode a 1 2
  · obtain ⟨a, rfl⟩ := Int.eq_ofNat_of_zero_le (reg_in hL a hok.1).2.2.2
    exact ⟨0, B.set a c, fun W1 B2 o2 s2 h => (setbyte_yes h.im a c hok).mono fun e w' g => ⟨g.1, Lib.hid (h.leftB g.2.1 g.2.2)⟩, fun W1 B1 o1 s1 h => (rsetbyte_yes h.rf a c hok).mono fun e w' g => ⟨g.1, Lib.hid (h.rightB g.2.1 g.2.2)⟩⟩
  · exact ⟨5, B, fun W1 B2 o2 s2 h => (setbyte_no h.im a _ ha hok).mono fun e w' g => ⟨g.1, Lib.hid (by rw [g.2]; exact h)⟩, fun W1 B1 o1 s1 h => (rsetbyte_no h.rf a _ ha hok).mono fun e w' g => ⟨g.1, Lib.hid (h.bel g.2)⟩⟩
theorem two_byte (hL : L.ok) (a : Int) (ha : -9223372036854775808 ≤ a ∧ a ≤ 9223372036854775807) : ∃ (c : UInt8) (res : Int),
    LC w0 p b p2 b2 L 25 #[.pointer (some ⟨p, 0, none⟩), .int .i64 mode, .int .i64 a] (.tuple #[.int .u8 (c.toNat : Int), .int .i64 res]) B o s B o s ∧
    DC w0 p b p2 b2 L 48 #[.pointer (some ⟨p2, 0, none⟩), .int .i64 mode, .int .i64 a] (.tuple #[.int .u8 (c.toNat : Int), .int .i64 res]) B o s B o s := by
  by_cases hok : rowOk L o s mode a 1 1
  · obtain ⟨a, rfl⟩ := Int.eq_ofNat_of_zero_le (reg_in hL a hok.1).2.2.2
    exact ⟨B.getD a 0, 0, fun W1 B2 o2 s2 h => (byte_yes h.im a _ hok rfl).mono fun e w' g => ⟨g.1, Lib.hid (by rw [g.2]; exact h)⟩, fun W1 B1 o1 s1 h => (rbyte_yes h.rf a _ hok rfl).mono fun e w' g => ⟨g.1, Lib.hid (h.bel g.2)⟩⟩
  · exact ⟨0, 5, fun W1 B2 o2 s2 h => (byte_no h.im a ha hok).mono fun e w' g => ⟨g.1, Lib.hid (by rw [g.2]; exact h)⟩, fun W1 B1 o1 s1 h => (rbyte_no h.rf a ha hok).mono fun e w' g => ⟨g.1, Lib.hid (h.bel g.2)⟩⟩
theorem two_setcell (hL : L.ok) (a v : Int) (hv : isI v) (ha : -9223372036854775808 ≤ a ∧ a ≤ 9223372036854775807) : ∃ (res : Int) (B' : List UInt8),
    LC w0 p b p2 b2 L 24 #[.pointer (some ⟨p, 0, none⟩), .int .i64 mode, .int .i64 a, .int .i64 v] (.int .i64 res) B o s B' o s ∧
    DC w0 p b p2 b2 L 51 #[.pointer (some ⟨p2, 0, none⟩), .int .i64 mode, .int .i64 a, .int .i64 v] (.int .i64 res) B o s B' o s := by
  by_cases h8 : a % 8 = 0
  · by_cases hok : rowOk L o s mode a 8 2
    · obtain ⟨a, rfl⟩ := Int.eq_ofNat_of_zero_le (reg_in hL a hok.1).2.2.2
      exact ⟨0, splice B a (by8 v), fun W1 B2 o2 s2 h => (setcell_yes h.im a v (by omega) hok).mono fun e w' g => ⟨g.1, Lib.hid (h.leftB g.2.1 g.2.2)⟩, fun W1 B1 o1 s1 h => (rsetcell_yes h.rf a v hv (by omega) hok).mono fun e w' g => ⟨g.1, Lib.hid (h.rightB g.2.1 g.2.2)⟩⟩
    · exact ⟨5, B, fun W1 B2 o2 s2 h => (setcell_no h.im a v ha h8 hok).mono fun e w' g => ⟨g.1, Lib.hid (by rw [g.2]; exact h)⟩, fun W1 B1 o1 s1 h => (rsetcell_no h.rf a v ha h8 hok).mono fun e w' g => ⟨g.1, Lib.hid (h.bel g.2)⟩⟩
  · exact ⟨6, B, fun W1 B2 o2 s2 h => (setcell_align a v h8).mono fun e w' g => ⟨g.1, Lib.hid (by rw [g.2]; exact h)⟩, fun W1 B1 o1 s1 h => (rsetcell_align a v h8 ha).mono fun e w' g => ⟨g.1, Lib.hid (h.bel g.2)⟩⟩
theorem two_cell (hL : L.ok) (a : Int) (ha : -9223372036854775808 ≤ a ∧ a ≤ 9223372036854775807) : ∃ v res : Int,
    LC w0 p b p2 b2 L 23 #[.pointer (some ⟨p, 0, none⟩), .int .i64 mode, .int .i64 a] (.tuple #[.int .i64 v, .int .i64 res]) B o s B o s ∧
    DC w0 p b p2 b2 L 50 #[.pointer (some ⟨p2, 0, none⟩), .int .i64 mode, .int .i64 a] (.tuple #[.int .i64 v, .int .i64 res]) B o s B o s := by
  by_cases h8 : a % 8 = 0
  · by_cases hok : rowOk L o s mode a 8 1
    · obtain ⟨a, rfl⟩ := Int.eq_ofNat_of_zero_le (reg_in hL a hok.1).2.2.2
      exact ⟨cel B a, 0, fun W1 B2 o2 s2 h => (cell_yes h.im a _ (by omega) hok rfl).mono fun e w' g => ⟨g.1, Lib.hid (h.bel g.2)⟩, fun W1 B1 o1 s1 h => (rcell_yes h.rf a _ (by omega) hok rfl).mono fun e w' g => ⟨g.1, Lib.hid (h.bel g.2)⟩⟩
    · exact ⟨0, 5, fun W1 B2 o2 s2 h => (cell_no h.im a ha h8 hok).mono fun e w' g => ⟨g.1, Lib.hid (by rw [g.2]; exact h)⟩, fun W1 B1 o1 s1 h => (rcell_no h.rf a ha h8 hok).mono fun e w' g => ⟨g.1, Lib.hid (h.bel g.2)⟩⟩
  · exact ⟨0, 6, fun W1 B2 o2 s2 h => (cell_align a h8).mono fun e w' g => ⟨g.1, Lib.hid (by rw [g.2]; exact h)⟩, fun W1 B1 o1 s1 h => (rcell_align a h8 ha).mono fun e w' g => ⟨g.1, Lib.hid (h.bel g.2)⟩⟩
end
end Go.Proofs.Yteldbkdfphkdbaa
