import Derived.Test.YtoaiiimnfgbcaaaImD
namespace Go.Proofs.Ytoaiiimnfgbcaaa
open Go.RowKit
set_option linter.unusedVariables false
set_option linter.unusedSimpArgs false
/-- what is hidden, noughts behind it -/
def loadL (B : List UInt8) (x z : Nat) (S : List UInt8) : List UInt8 := splice (splice B x S) (x + S.length) (List.replicate (z - S.length) 0)
section
variable {p b : Nat} {L : Lay} {B : List UInt8} {o s : Bool} {mode : Int} {w : World}
theorem info_u8z : ∃ i, Try.prog.info? 5 = some i ∧ i.zero = some (.int .u8 0) := by
  obtain ⟨i, h1, h2, _⟩ := info_parts info_u8
  exact ⟨i, h1, h2⟩
theorem text_neg (a n : Int) (hn : n < 0) : Calls Try.prog 75 #[.pointer (some ⟨p, 0, none⟩), .int .i64 mode, .int .i64 a, .int .i64 n] w fun e w' => e = .returned (.tuple #[.string ⟨#[]⟩, .int .i64 19]) ∧ w' = w := by
  go_enter Try.func75, Try.ntmps75
  go_wp2_with (fail)
  go_returns
  exact ⟨rfl, rfl⟩
theorem text_zero (h : Im w p b L B o s) (a : Int) : Calls Try.prog 75 #[.pointer (some ⟨p, 0, none⟩), .int .i64 mode, .int .i64 a, .int .i64 0] w fun e w' => e = .returned (.tuple #[.string ⟨#[]⟩, .int .i64 0]) ∧ w' = w := by
  have hR := Lib.hid (row_zero p b L B o s mode a 1 w h)
  have hrun := conv_u8 w none 0 0 0 0 [] rfl (fun h => absurd h (by decide)) (fun j hj => absurd hj (Nat.not_lt_zero _))
  clear h
  go_enter Try.func75, Try.ntmps75
  go_wp2_with (fail)
  refine hR.out.mono ?_
  rintro e w1 ⟨rfl, rfl⟩
  go_wp2_with (fail)
  go_returns
  exact ⟨rfl, rfl⟩
theorem text_no (h : Im w p b L B o s) (a n : Int) (hn : 0 < n) (hn2 : n ≤ 9223372036854775807) (ha : -9223372036854775808 ≤ a ∧ a ≤ 9223372036854775807) (hok : ¬ rowOk L o s mode a n 1) : Calls Try.prog 75 #[.pointer (some ⟨p, 0, none⟩), .int .i64 mode, .int .i64 a, .int .i64 n] w fun e w' => e = .returned (.tuple #[.string ⟨#[]⟩, .int .i64 5]) ∧ w' = w := by
  have hR := Lib.hid (row_no p b L B o s mode a n 1 w h hn hn2 ha (.inl rfl) hok)
  have h0 : ¬ n < 0 := by omega
  clear h hok
  go_enter Try.func75, Try.ntmps75
  go_wp2_with (fail)
  refine hR.out.mono ?_
  rintro e w1 ⟨rfl, rfl⟩
  go_wp2_with (fail)
  go_returns
  exact ⟨rfl, rfl⟩
/-- n bytes from a place on -/
def rowL (B : List UInt8) (a n : Nat) : List UInt8 := (B.drop a).take n
theorem rowL_len (B : List UInt8) (a n : Nat) (h : a + n ≤ B.length) : (rowL B a n).length = n := by
  unfold rowL; rw [List.length_take, List.length_drop]; omega
theorem rowL_at (h : Im w p b L B o s) (a n : Nat) (j : Nat) (hj : j < (rowL B a n).length) : w.cell? ⟨b, a + j, none⟩ = some (.int .u8 ((rowL B a n)[j].toNat : Int)) := by
  have hl : a + j < B.length := by
    unfold rowL at hj; rw [List.length_take, List.length_drop] at hj; omega
  rw [h.byte (a + j) hl]
  simp [rowL]
set_option maxHeartbeats 1000000 in
theorem text_yes (h : Im w p b L B o s) (a n : Nat) (hn : 0 < n) (hok : rowOk L o s mode a n 1) : Calls Try.prog 75 #[.pointer (some ⟨p, 0, none⟩), .int .i64 mode, .int .i64 a, .int .i64 n] w fun e w' => e = .returned (.tuple #[.string ⟨(rowL B a n).toArray⟩, .int .i64 0]) ∧ w' = w := by
  have hR := Lib.hid (row_at h a n 1 hn (.inl rfl) hok)
  have hl := row_len h.ok hok
  have hrun := conv_u8 w (some ⟨b, a, none⟩) b a n n (rowL B a n) (rowL_len B a n (by rw [h.len]; omega)) (fun _ => rfl) (rowL_at h a n)
  generalize rowL B a n = R at *
  clear h hok
  have h0 : ¬ (n : Int) < 0 := by omega
  go_enter Try.func75, Try.ntmps75
  go_wp2_with (fail)
  refine hR.out.mono ?_
  rintro e w1 ⟨rfl, rfl⟩
  go_wp2_with (fail)
  go_returns
  exact ⟨rfl, rfl⟩
end
end Go.Proofs.Ytoaiiimnfgbcaaa
