import Derived.Test.YtpbloennjcjgoaaDoorKlE
import Derived.Test.YtpbloennjcjgoaaDoorImP
namespace Go.Proofs.YtpbloennjcjgoaaDoor
open Go.RowKit
set_option linter.unusedVariables false
set_option linter.unusedSimpArgs false
/-! chapter 16, plain: what is laid is read back -/
theorem spl_in (B R : List UInt8) (a : Nat) (hf : a + R.length ≤ B.length) : ((splice B a R).drop a).take R.length = R := by
  unfold splice
  rw [List.drop_append_of_le_length (by rw [List.length_take]; omega), List.drop_take, Nat.sub_self, List.take_zero, List.nil_append, List.take_left']
  rfl
theorem spl_out (B R : List UInt8) (a x n : Nat) (hf : a + R.length ≤ B.length) (h : x + n ≤ a ∨ a + R.length ≤ x) : ((splice B a R).drop x).take n = (B.drop x).take n := by
  apply List.ext_getElem?
  intro i
  rw [List.getElem?_take, List.getElem?_take]
  by_cases hi : i < n
  · rw [if_pos hi, if_pos hi, List.getElem?_drop, List.getElem?_drop]
    have hl : (splice B a R).length = B.length := splice_len B a R hf
    by_cases hx : x + i < B.length
    · have e := getD_out B R a (x + i) hf (by omega)
      rw [List.getD_eq_getElem?_getD, List.getD_eq_getElem?_getD, List.getElem?_eq_getElem (by rw [hl]; exact hx), List.getElem?_eq_getElem hx] at e
      rw [List.getElem?_eq_getElem (by rw [hl]; exact hx), List.getElem?_eq_getElem hx]
      simpa using e
    · rw [List.getElem?_eq_none (by rw [hl]; omega), List.getElem?_eq_none (by omega)]
  · rw [if_neg hi, if_neg hi]
/-- the three regions laid, and read -/
theorem laid_read (L : Lay) (hok : L.ok) (B : List UInt8) (hB : B.length = L.b6) (S1 S2 S3 : ByteArray) (h1 : S1.size = L.u) (h2 : S2.size = L.d) (h3 : S3.size = L.r) :
    strL L (splice (splice (splice B (L.from_ 3) S1.data.toList) (L.from_ 4) S2.data.toList) (L.from_ 5) S3.data.toList) 3 = S1 ∧ strL L (splice (splice (splice B (L.from_ 3) S1.data.toList) (L.from_ 4) S2.data.toList) (L.from_ 5) S3.data.toList) 4 = S2 ∧ strL L (splice (splice (splice B (L.from_ 3) S1.data.toList) (L.from_ 4) S2.data.toList) (L.from_ 5) S3.data.toList) 5 = S3 := by
  have m := Lay.mono hok
  have l1 : S1.data.toList.length = L.u := by rw [data_size]; exact h1
  have l2 : S2.data.toList.length = L.d := by rw [data_size]; exact h2
  have l3 : S3.data.toList.length = L.r := by rw [data_size]; exact h3
  have e3 : L.from_ 3 = L.b3 := rfl
  have e4 : L.from_ 4 = L.b4 := rfl
  have e5 : L.from_ 5 = L.b5 := rfl
  have t3 : L.to_ 3 = L.b4 := rfl
  have t4 : L.to_ 4 = L.b5 := rfl
  have t5 : L.to_ 5 = L.b6 := rfl
  have d4 : L.b4 = L.b3 + L.u := rfl
  have d5 : L.b5 = L.b4 + L.d := rfl
  have d6 : L.b6 = L.b5 + L.r := rfl
  have n1 : (splice B L.b3 S1.data.toList).length = B.length := splice_len _ _ _ (by omega)
  have n2 : (splice (splice B L.b3 S1.data.toList) L.b4 S2.data.toList).length = B.length := by rw [splice_len _ _ _ (by omega), n1]
  unfold strL partL
  rw [e3, e4, e5, t3, t4, t5]
  refine ⟨?_, ?_, ?_⟩
  · rw [spl_out _ _ _ _ _ (by omega) (.inl (by omega)), spl_out _ _ _ _ _ (by omega) (.inl (by omega)), show L.b4 - L.b3 = S1.data.toList.length by omega, spl_in _ _ _ (by omega)]
  · rw [spl_out _ _ _ _ _ (by omega) (.inl (by omega)), show L.b5 - L.b4 = S2.data.toList.length by omega, spl_in _ _ _ (by omega)]
  · rw [show L.b6 - L.b5 = S3.data.toList.length by omega, spl_in _ _ _ (by omega)]
end Go.Proofs.YtpbloennjcjgoaaDoor
