import Derived.Test.YtkopgjdnfjgbjaaImD
namespace Go.Proofs.Ytkopgjdnfjgbjaa
open Go.RowKit
set_option linter.unusedVariables false
set_option linter.unusedSimpArgs false
/-- what is hidden, noughts behind it -/
def loadL (B : List UInt8) (x z : Nat) (S : List UInt8) : List UInt8 := splice (splice B x S) (x + S.length) (List.replicate (z - S.length) 0)
section
variable {p b : Nat} {L : Lay} {B : List UInt8} {o s : Bool} {mode : Int} {w : World}
theorem info_u8z : ∃ i, Try.prog.info? 5 = some i ∧ i.zero = some (.int .u8 0) := by
  obtain ⟨i, h1, h2, _⟩ := info_parts info_u8
  exact ⟨i, h1, h2⟩
/-- n bytes from a place on -/
def rowL (B : List UInt8) (a n : Nat) : List UInt8 := (B.drop a).take n
theorem rowL_len (B : List UInt8) (a n : Nat) (h : a + n ≤ B.length) : (rowL B a n).length = n := by
  unfold rowL; rw [List.length_take, List.length_drop]; omega
theorem rowL_at (h : Im w p b L B o s) (a n : Nat) (j : Nat) (hj : j < (rowL B a n).length) : w.cell? ⟨b, a + j, none⟩ = some (.int .u8 ((rowL B a n)[j].toNat : Int)) := by
  have hl : a + j < B.length := by
    unfold rowL at hj; rw [List.length_take, List.length_drop] at hj; omega
  rw [h.byte (a + j) hl]
  simp [rowL]
end
end Go.Proofs.Ytkopgjdnfjgbjaa
