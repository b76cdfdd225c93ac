import Derived.Test.YtoaiiimnfgbcaaaDcH
namespace Go.Proofs.Ytoaiiimnfgbcaaa
open Go.RowKit
set_option linter.unusedVariables false
set_option linter.unusedSimpArgs false
/-! PLAIN: what Create lays is read back -/
theorem fill_out (n : Nat) : ∀ (B : List UInt8) (h i : Nat), (i < h ∨ h + n ≤ i) → (fillN B h n).getD i 0 = B.getD i 0 := by
  induction n with
  | zero => intro B h i _; rfl
  | succ n ih =>
    intro B h i hi
    rw [fillN, ih _ _ _ (by omega), getD_set, if_neg (by omega)]
theorem lay_out (cs : List UInt8) : ∀ (B : List UInt8) (a i : Nat), (i < a ∨ a + cs.length ≤ i) → (layN B a cs).getD i 0 = B.getD i 0 := by
  induction cs with
  | nil => intro B a i _; rfl
  | cons x cs ih =>
    intro B a i hi
    simp only [List.length_cons] at hi
    rw [layN, ih _ _ _ (by omega), getD_set, if_neg (by omega)]
theorem lay_in (cs : List UInt8) : ∀ (B : List UInt8) (a j : Nat), j < cs.length → a + cs.length ≤ B.length → (layN B a cs).getD (a + j) 0 = cs.getD j 0 := by
  induction cs with
  | nil => intro B a j hj; simp at hj
  | cons x cs ih =>
    intro B a j hj hl
    simp only [List.length_cons] at hj hl
    rw [layN]
    cases j with
    | zero => rw [lay_out _ _ _ _ (by omega), Nat.add_zero, getD_set, if_pos ⟨rfl, by omega⟩]; rfl
    | succ j =>
      rw [show a + (j + 1) = a + 1 + j by omega, ih _ _ _ (by omega) (by rw [List.length_set]; omega)]
      rfl
theorem crB_len (B : List UInt8) (h l : Nat) (nm : ByteArray) (hl : upN h + 8 ≤ B.length) : (crB B h l nm).length = B.length := by
  unfold crB
  rw [fillN_len, layN_len, List.length_set, splice_len _ _ _ (by rw [fillN_len, by8_length]; exact hl), fillN_len]
theorem size_data (nm : ByteArray) : nm.data.toList.length = nm.size := rfl
/-- what lies ahead of where it begins -/
theorem crB_lo (B : List UInt8) (h l : Nat) (nm : ByteArray) (hl : upN h + 8 ≤ B.length) (i : Nat) (hi : i < h) : (crB B h l nm).getD i 0 = B.getD i 0 := by
  have hu := upN_le h
  unfold crB
  rw [fill_out _ _ _ _ (by omega), lay_out _ _ _ _ (by omega), getD_set, if_neg (by omega), getD_lo _ _ _ _ (by rw [fillN_len, by8_length]; exact hl) (by omega), fill_out _ _ _ _ (by omega)]
theorem crB_cel (B : List UInt8) (h l : Nat) (nm : ByteArray) (hl : upN h + 8 ≤ B.length) (hl63 : l < 9223372036854775808) : cel (crB B h l nm) (upN h) = (l : Int) := by
  have hu := upN_le h
  rw [cel_congr (crB B h l nm) (by8 l) (upN h) 0 (fun k hk => by
    unfold crB
    rw [fill_out _ _ _ _ (by omega), lay_out _ _ _ _ (by omega), getD_set, if_neg (by omega), getD_in _ _ _ _ (by rw [fillN_len, by8_length]; exact hl) (by omega) (by rw [by8_length]; omega)]
    congr 1; omega)]
  exact cel_by8 _ (by unfold isI; omega)
theorem crB_tag (B : List UInt8) (h l : Nat) (nm : ByteArray) (hl : upN h + 9 ≤ B.length) : (crB B h l nm).getD (upN h + 8) 0 = UInt8.ofNat (nm.size + 32) := by
  unfold crB
  rw [fill_out _ _ _ _ (by omega), lay_out _ _ _ _ (by omega), getD_set, if_pos ⟨rfl, by rw [splice_len _ _ _ (by rw [fillN_len, by8_length]; omega), fillN_len]; omega⟩]
theorem crB_name (B : List UInt8) (h l : Nat) (nm : ByteArray) (hl : upN h + 9 + nm.size ≤ B.length) : rowL (crB B h l nm) (upN h + 9) nm.size = nm.data.toList := by
  have hlen := crB_len B h l nm (by omega)
  refine list_ext _ _ (by rw [rowL_len _ _ _ (by rw [hlen]; exact hl), size_data]) (fun i hi => ?_)
  rw [rowL_len _ _ _ (by rw [hlen]; exact hl)] at hi
  unfold rowL
  rw [getD_drop _ _ _ _ hi]
  unfold crB
  rw [fill_out _ _ _ _ (by omega), show upN h + 8 + 1 = upN h + 9 by omega, lay_in _ _ _ _ (by rw [size_data]; exact hi) (by rw [List.length_set, splice_len _ _ _ (by rw [fillN_len, by8_length]; omega), fillN_len, size_data]; exact hl)]
theorem tag_bits (n : Nat) (h1 : 1 ≤ n) (h2 : n ≤ 31) : (UInt8.ofNat (n + 32)).toNat = n + 32 := by
  rw [UInt8.toNat_ofNat']; omega
/-- the word laid, hidden, leads to the latest one before it -/
theorem head_cr (B : List UInt8) (f y h l : Nat) (nm : ByteArray) (h1 : 1 ≤ nm.size) (h2 : nm.size ≤ 31) (hf : f ≤ h) (hy : ¬ y < upN h + (8 + upN (1 + nm.size))) (hB : y ≤ B.length) (hl63 : l < 9223372036854775808) :
    headP (crB B h l nm) f y (upN h : Nat) = some (⟨nm, upN h, crH h nm.size, false, true, false⟩, (l : Int)) := by
  have hu := upN_le h
  have hv := upN_le (1 + nm.size)
  have e : upN (upN h + 9 + nm.size) = upN h + (8 + upN (1 + nm.size)) := by unfold upN; omega
  have ht := crB_tag B h l nm (by omega)
  have hn := tag_bits nm.size h1 h2
  have hm : (nm.size + 32) % 32 = nm.size := by omega
  unfold headP
  rw [if_pos ⟨by omega, by omega, by omega⟩]
  simp only [Int.toNat_natCast]
  rw [ht, hn, hm, if_pos ⟨by omega, by rw [e]; omega⟩, crB_cel B h l nm (by omega) hl63]
  unfold wdB
  rw [hn, hm, crB_name B h l nm (by omega)]
  have b1 : ((nm.size + 32) / 64 % 2 == 1) = false := by rw [show (nm.size + 32) / 64 = 0 by omega]; rfl
  have b2 : ((nm.size + 32) / 32 % 2 == 1) = true := by rw [show (nm.size + 32) / 32 = 1 by omega]; rfl
  have b3 : ((nm.size + 32) / 128 == 1) = false := by rw [show (nm.size + 32) / 128 = 0 by omega]; rfl
  rw [b1, b2, b3]
  rfl
/-- the same word, shown -/
theorem shown_tag (n : Nat) (h1 : 1 ≤ n) (h2 : n ≤ 31) : (mkU 0 (UInt8.ofNat (n + 32))).toNat = n := by
  have : ∀ k : Fin 32, 1 ≤ k.val → (mkU 0 (UInt8.ofNat (k.val + 32))).toNat = k.val := by decide
  exact this ⟨n, by omega⟩ h1
theorem head_sh (B : List UInt8) (f y h l : Nat) (nm : ByteArray) (h1 : 1 ≤ nm.size) (h2 : nm.size ≤ 31) (hf : f ≤ h) (hf0 : 0 < f) (hy : ¬ y < upN h + (8 + upN (1 + nm.size))) (hB : y ≤ B.length) (hl63 : l < 9223372036854775808) :
    headP (mkB 0 y (upN h) false (crB B h l nm)) f y (upN h : Nat) = some (⟨nm, upN h, crH h nm.size, false, false, false⟩, (l : Int)) := by
  have hu := upN_le h
  have hv := upN_le (1 + nm.size)
  have e : upN (upN h + 9 + nm.size) = upN h + (8 + upN (1 + nm.size)) := by unfold upN; omega
  have ht := crB_tag B h l nm (by omega)
  have hlen := crB_len B h l nm (by omega)
  have hn := shown_tag nm.size h1 h2
  have hm : nm.size % 32 = nm.size := by omega
  have hmk : mkB 0 y (upN h) false (crB B h l nm) = (crB B h l nm).set (upN h + 8) (mkU 0 (UInt8.ofNat (nm.size + 32))) := by
    unfold mkB
    rw [if_neg (by simp; omega), ht]
  have ht2 : ((crB B h l nm).set (upN h + 8) (mkU 0 (UInt8.ofNat (nm.size + 32)))).getD (upN h + 8) 0 = mkU 0 (UInt8.ofNat (nm.size + 32)) := by
    rw [getD_set, if_pos ⟨rfl, by omega⟩]
  have hc2 : cel ((crB B h l nm).set (upN h + 8) (mkU 0 (UInt8.ofNat (nm.size + 32)))) (upN h) = (l : Int) := by
    rw [← crB_cel B h l nm (by omega) hl63]
    exact cel_congr _ _ _ _ (fun k hk => by rw [getD_set, if_neg (by omega)])
  have hr2 : rowL ((crB B h l nm).set (upN h + 8) (mkU 0 (UInt8.ofNat (nm.size + 32)))) (upN h + 9) nm.size = nm.data.toList := by
    rw [← crB_name B h l nm (by omega)]
    refine list_ext _ _ (by rw [rowL_len _ _ _ (by rw [List.length_set]; omega), rowL_len _ _ _ (by omega)]) (fun i hi => ?_)
    rw [rowL_len _ _ _ (by rw [List.length_set]; omega)] at hi
    unfold rowL
    rw [getD_drop _ _ _ _ hi, getD_drop _ _ _ _ hi, getD_set, if_neg (by omega)]
  rw [hmk]
  unfold headP
  rw [if_pos ⟨by omega, by omega, by omega⟩]
  simp only [Int.toNat_natCast]
  rw [ht2, hn, hm, if_pos ⟨by omega, by rw [e]; omega⟩, hc2]
  unfold wdB
  rw [hn, hm, hr2]
  have b1 : (nm.size / 64 % 2 == 1) = false := by rw [show nm.size / 64 = 0 by omega]; rfl
  have b2 : (nm.size / 32 % 2 == 1) = false := by rw [show nm.size / 32 = 0 by omega]; rfl
  have b3 : (nm.size / 128 == 1) = false := by rw [show nm.size / 128 = 0 by omega]; rfl
  rw [b1, b2, b3]
  rfl
end Go.Proofs.Ytoaiiimnfgbcaaa
