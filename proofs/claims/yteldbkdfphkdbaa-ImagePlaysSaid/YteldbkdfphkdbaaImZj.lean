import Derived.Test.YteldbkdfphkdbaaImZi
namespace Go.Proofs.Yteldbkdfphkdbaa
open Go.RowKit
set_option linter.unusedVariables false
set_option linter.unusedSimpArgs false
/-! pairs: Put, Open, Seal -/
section
variable {w0 : Bas} {p b p2 b2 : Nat} {L : Lay} {B : List UInt8} {o s : Bool} {mode : Int}
theorem two_put (r : Int) (S : ByteArray) : ∃ (res : Int) (B' : List UInt8),
    LC w0 p b p2 b2 L 28 #[.pointer (some ⟨p, 0, none⟩), .int .i64 r, .string S] (.int .i64 res) B o s B' o s ∧
    DC w0 p b p2 b2 L 65 #[.pointer (some ⟨p2, 0, none⟩), .int .i64 r, .string S] (.int .i64 res) B o s B' o s := by
  by_cases hr : r < 1 ∨ 5 < r
  · exact ⟨1, B, fun W1 B2 o2 s2 h => (put_arg r S hr).mono fun e w' g => ⟨g.1, Lib.hid (by rw [g.2]; exact h)⟩, fun W1 B1 o1 s1 h => (rput_arg r S hr).mono fun e w' g => ⟨g.1, Lib.hid (h.bel g.2)⟩⟩
  · by_cases hs : r = 1 ∧ s = true
    · obtain ⟨rfl, rfl⟩ := hs
      exact ⟨5, B, fun W1 B2 o2 s2 h => (put_sealed h.im S).mono fun e w' g => ⟨g.1, Lib.hid (by rw [g.2]; exact h)⟩, fun W1 B1 o1 s1 h => (rput_sealed h.rf S).mono fun e w' g => ⟨g.1, Lib.hid (h.bel g.2)⟩⟩
    · by_cases hl : S.size = L.to_ r - L.from_ r
      · exact ⟨0, _, fun W1 B2 o2 s2 h => (put_yes h.im r S (by omega) (by omega) hs hl).mono fun e w' g => ⟨g.1, Lib.hid (h.leftB g.2.1 g.2.2)⟩, fun W1 B1 o1 s1 h => (rput_yes h.rf r S (by omega) (by omega) hs hl).mono fun e w' g => ⟨g.1, Lib.hid (h.rightB g.2.1 g.2.2)⟩⟩
      · exact ⟨4, B, fun W1 B2 o2 s2 h => (put_form h.im r S (by omega) (by omega) hs hl).mono fun e w' g => ⟨g.1, Lib.hid (by obtain ⟨n, hn⟩ := g.2; rw [hn]; exact h.draws n)⟩, fun W1 B1 o1 s1 h => (rput_form h.rf r S (by omega) (by omega) hs hl).mono fun e w' g => ⟨g.1, Lib.hid (h.bel g.2)⟩⟩
theorem two_open : ∃ (res : Int) (o' : Bool),
    LC w0 p b p2 b2 L 34 #[.pointer (some ⟨p, 0, none⟩)] (.int .i64 res) B o s B o' s ∧
    DC w0 p b p2 b2 L 62 #[.pointer (some ⟨p2, 0, none⟩)] (.int .i64 res) B o s B o' s := by
  cases s
  · exact ⟨0, true, fun W1 B2 o2 s2 h => (open_yes h.im).mono fun e w' g => ⟨g.1, Lib.hid (h.leftP g.2.1 g.2.2)⟩, fun W1 B1 o1 s1 h => (ropen_yes h.rf).mono fun e w' g => ⟨g.1, Lib.hid (h.rightP g.2.1 g.2.2)⟩⟩
  · exact ⟨5, o, fun W1 B2 o2 s2 h => (open_no h.im).mono fun e w' g => ⟨g.1, Lib.hid (by rw [g.2]; exact h)⟩, fun W1 B1 o1 s1 h => (ropen_no h.rf).mono fun e w' g => ⟨g.1, Lib.hid (by rw [g.2]; exact h)⟩⟩
theorem two_seal : ∃ (res : Int),
    LC w0 p b p2 b2 L 35 #[.pointer (some ⟨p, 0, none⟩)] (.int .i64 res) B o s B o true ∧
    DC w0 p b p2 b2 L 63 #[.pointer (some ⟨p2, 0, none⟩)] (.int .i64 res) B o s B o true := by
  cases s
  · exact ⟨0, fun W1 B2 o2 s2 h => (seal_yes h.im).mono fun e w' g => ⟨g.1, Lib.hid (h.leftP g.2.1 g.2.2)⟩, fun W1 B1 o1 s1 h => (rseal_yes h.rf).mono fun e w' g => ⟨g.1, Lib.hid (h.rightP g.2.1 g.2.2)⟩⟩
  · exact ⟨5, fun W1 B2 o2 s2 h => (seal_no h.im).mono fun e w' g => ⟨g.1, Lib.hid (by rw [g.2]; exact h)⟩, fun W1 B1 o1 s1 h => (rseal_no h.rf).mono fun e w' g => ⟨g.1, Lib.hid (by rw [g.2]; exact h)⟩⟩
end
end Go.Proofs.Yteldbkdfphkdbaa
