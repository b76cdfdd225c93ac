import Derived.Test.YtpbloennjcjgoaaDoorResK
namespace Go.Proofs.YtpbloennjcjgoaaDoor
open Go.RowKit
set_option linter.unusedVariables false
set_option linter.unusedSimpArgs false
/-! the plain law of ResetSpoils: what is printed is read back, and what is spoilt is none -/
def stepS (n : Nat) (c : UInt8) : Nat := (n * 131 + c.toNat) % 18446744073709551616
theorem sumL_step (l : List UInt8) : sumL l = l.foldl stepS 0 := rfl
theorem step_lt (n : Nat) (c : UInt8) : stepS n c < 18446744073709551616 := Nat.mod_lt _ (by decide)
theorem fold_lt : ∀ (Q : List UInt8) (a : Nat), a < 18446744073709551616 → Q.foldl stepS a < 18446744073709551616
  | [], a, h => h
  | c :: Q, a, h => fold_lt Q _ (step_lt a c)
theorem add_inj (X Y c : Nat) (h : (X + c) % 18446744073709551616 = (Y + c) % 18446744073709551616) : X % 18446744073709551616 = Y % 18446744073709551616 := by
  omega
theorem mul_back (a : Nat) (ha : a < 18446744073709551616) : (a * 131 % 18446744073709551616) * 281629680514649643 % 18446744073709551616 = a := by
  rw [Nat.mod_mul_mod, Nat.mul_assoc, show 131 * 281629680514649643 = 1 + 18446744073709551616 * 2 from rfl, Nat.mul_add, Nat.mul_one, Nat.mul_left_comm, Nat.add_mul_mod_self_left]
  exact Nat.mod_eq_of_lt ha
theorem step_inj (a b c : Nat) (ha : a < 18446744073709551616) (hb : b < 18446744073709551616) (h : (a * 131 + c) % 18446744073709551616 = (b * 131 + c) % 18446744073709551616) : a = b := by
  have e := add_inj _ _ _ h
  rw [← mul_back a ha, e, mul_back b hb]
theorem last_inj (n c d : Nat) (hc : c < 256) (hd : d < 256) (h : (n * 131 + c) % 18446744073709551616 = (n * 131 + d) % 18446744073709551616) : c = d := by
  omega
theorem fold_ne : ∀ (Q : List UInt8) (a b : Nat), a < 18446744073709551616 → b < 18446744073709551616 → a ≠ b → Q.foldl stepS a ≠ Q.foldl stepS b
  | [], a, b, _, _, h => h
  | c :: Q, a, b, ha, hb, h => by
    have key : stepS a c ≠ stepS b c := fun e => h (step_inj a b c.toNat ha hb e)
    rw [List.foldl_cons, List.foldl_cons]
    exact fold_ne Q (stepS a c) (stepS b c) (step_lt a c) (step_lt b c) key
theorem sum_set (B : List UInt8) (k : Nat) (hk : k < B.length) (c : UInt8) (hc : c ≠ B[k]) : sumL (B.set k c) ≠ sumL B := by
  have e1 : B.set k c = B.take k ++ c :: B.drop (k + 1) := List.set_eq_take_append_cons_drop.trans (if_pos hk)
  have e2 : B = B.take k ++ B[k] :: B.drop (k + 1) := by rw [← List.drop_eq_getElem_cons hk, List.take_append_drop]
  have hne : c.toNat ≠ B[k].toNat := fun e => hc (UInt8.toNat_inj.1 e)
  rw [e1]
  conv => rhs; rw [e2]
  rw [sumL_step, sumL_step, List.foldl_append, List.foldl_append, List.foldl_cons, List.foldl_cons]
  have hlt := fold_lt (B.take k) 0 (by decide)
  have h1 := c.toNat_lt
  have h2 := (B[k]).toNat_lt
  generalize List.foldl stepS 0 (B.take k) = n at *
  have key : stepS n c ≠ stepS n B[k] := fun e => hne (last_inj n _ _ h1 h2 e)
  exact fold_ne (B.drop (k + 1)) (stepS n c) (stepS n B[k]) (step_lt _ _) (step_lt _ _) key
def rdL (l : List UInt8) (k : Nat) : Nat := horF (fun j => l.getD (k + j) 0) 8
theorem horF_congr (b b' : Nat → UInt8) (h : ∀ j, j < 8 → b j = b' j) : horF b 8 = horF b' 8 := by
  simp only [horF, Nat.reduceSub, h 0 (by decide), h 1 (by decide), h 2 (by decide), h 3 (by decide), h 4 (by decide), h 5 (by decide), h 6 (by decide), h 7 (by decide)]
theorem horF_inj (b b' : Nat → UInt8) (h : horF b 8 = horF b' 8) : ∀ j, j < 8 → b j = b' j := by
  simp only [horF, Nat.reduceSub] at h
  have q := fun j => (b j).toNat_lt
  have q' := fun j => (b' j).toNat_lt
  have q0 := q 0; have q1 := q 1; have q2 := q 2; have q3 := q 3; have q4 := q 4; have q5 := q 5; have q6 := q 6; have q7 := q 7
  have p0 := q' 0; have p1 := q' 1; have p2 := q' 2; have p3 := q' 3; have p4 := q' 4; have p5 := q' 5; have p6 := q' 6; have p7 := q' 7
  intro j hj
  refine UInt8.toNat_inj.1 ?_
  rcases (by omega : j = 0 ∨ j = 1 ∨ j = 2 ∨ j = 3 ∨ j = 4 ∨ j = 5 ∨ j = 6 ∨ j = 7) with rfl | rfl | rfl | rfl | rfl | rfl | rfl | rfl <;> omega
theorem horF_le8 (n : Nat) (hn : n < 18446744073709551616) : horF (fun j => (le8 n).getD j 0) 8 = n := by
  have e : horF (fun j => (le8 n).getD j 0) 8 = horF (fun j => UInt8.ofNat (n / 256 ^ j)) 8 := by
    refine horF_congr _ _ fun j hj => ?_
    rw [List.getD_eq_getElem?_getD, List.getElem?_eq_getElem (by rw [le8_length]; exact hj)]
    simp [le8]
  rw [e]
  simp [horF]
  omega
theorem getD_mid (A M C : List UInt8) (j : Nat) (hj : j < M.length) : (A ++ M ++ C).getD (A.length + j) 0 = M.getD j 0 := by
  rw [List.getD_eq_getElem?_getD, List.getD_eq_getElem?_getD, List.append_assoc, List.getElem?_append_right (by omega), List.getElem?_append_left (by omega)]
  congr 2; omega
theorem rdL_at (A C : List UInt8) (n : Nat) (hn : n < 18446744073709551616) : rdL (A ++ le8 n ++ C) A.length = n := by
  unfold rdL
  rw [horF_congr _ (fun j => (le8 n).getD j 0) (fun j hj => getD_mid A (le8 n) C j hj)]
  exact horF_le8 n hn
theorem rdL_take (l : List UInt8) (k m : Nat) (h : k + 8 ≤ m) : rdL (l.take m) k = rdL l k := by
  unfold rdL
  refine horF_congr _ _ fun j hj => ?_
  rw [List.getD_eq_getElem?_getD, List.getD_eq_getElem?_getD, List.getElem?_take_of_lt (by omega)]
theorem rdL_more (l m : List UInt8) (k : Nat) (h : k + 8 ≤ l.length) : rdL (l ++ m) k = rdL l k := by
  unfold rdL
  refine horF_congr _ _ fun j hj => ?_
  rw [List.getD_eq_getElem?_getD, List.getD_eq_getElem?_getD, List.getElem?_append_left (by omega)]
section
variable (st da re : ByteArray) (h l : Int)
theorem cat3_toList : (st ++ da ++ re).data.toList = st.data.toList ++ da.data.toList ++ re.data.toList := by simp
theorem body_length : (bodyL st da re h l).length = 44 + (st.size + da.size + re.size) := by
  unfold bodyL
  rw [List.length_append, data_size, str_append3]
  rfl
theorem print_length : (printL st da re h l).length = 52 + (st.size + da.size + re.size) := by
  unfold printL
  rw [List.length_append, body_length, le8_length]; omega
theorem print_take : (printL st da re h l).take (44 + (st.size + da.size + re.size)) = bodyL st da re h l := by
  unfold printL
  rw [← body_length st da re h l, List.take_left]
theorem print_sum : rdL (printL st da re h l) (44 + (st.size + da.size + re.size)) = sumL (bodyL st da re h l) := by
  have := rdL_at (bodyL st da re h l) [] (sumL (bodyL st da re h l)) (sumL_lt _)
  rw [List.append_nil, body_length] at this
  exact this
theorem print_mark : (printL st da re h l).take 4 = mark4 := rfl
variable (z1 : st.size ≤ 65536) (z2 : da.size ≤ 4096) (z3 : re.size ≤ 4096)
theorem rd4 (z1 : st.size ≤ 65536) : rdL (printL st da re h l) 4 = st.size := by
  have := rdL_at mark4 (le8 da.size ++ le8 re.size ++ le8 (cN h) ++ le8 (cN l) ++ (st ++ da ++ re).data.toList ++ le8 (sumL (bodyL st da re h l))) st.size (by omega)
  rw [← this]
  show rdL _ 4 = rdL _ 4
  congr 1
theorem rd12 (z2 : da.size ≤ 4096) : rdL (printL st da re h l) 12 = da.size := by
  have := rdL_at (mark4 ++ le8 st.size) (le8 re.size ++ le8 (cN h) ++ le8 (cN l) ++ (st ++ da ++ re).data.toList ++ le8 (sumL (bodyL st da re h l))) da.size (by omega)
  rw [← this]
  show rdL _ 12 = rdL _ 12
  congr 1
theorem rd20 (z3 : re.size ≤ 4096) : rdL (printL st da re h l) 20 = re.size := by
  have := rdL_at (mark4 ++ le8 st.size ++ le8 da.size) (le8 (cN h) ++ le8 (cN l) ++ (st ++ da ++ re).data.toList ++ le8 (sumL (bodyL st da re h l))) re.size (by omega)
  rw [← this]
  show rdL _ 20 = rdL _ 20
  congr 1
theorem rd28 : rdL (printL st da re h l) 28 = cN h := by
  have := rdL_at (mark4 ++ le8 st.size ++ le8 da.size ++ le8 re.size) (le8 (cN l) ++ (st ++ da ++ re).data.toList ++ le8 (sumL (bodyL st da re h l))) (cN h) (cN_lt h)
  rw [← this]
  show rdL _ 28 = rdL _ 28
  congr 1
theorem rd36 : rdL (printL st da re h l) 36 = cN l := by
  have := rdL_at (mark4 ++ le8 st.size ++ le8 da.size ++ le8 re.size ++ le8 (cN h)) ((st ++ da ++ re).data.toList ++ le8 (sumL (bodyL st da re h l))) (cN l) (cN_lt l)
  rw [← this]
  show rdL _ 36 = rdL _ 36
  congr 1
end
theorem rdN_L (L : List UInt8) (k : Nat) : rdN ⟨L.toArray⟩ k = rdL L k := rfl
theorem wrap_cN (x : Int) (hx : -9223372036854775808 ≤ x ∧ x ≤ 9223372036854775807) : wrap64 (cN x : Int) = x := by
  unfold cN wrap64
  omega
theorem ext_mid (A C : List UInt8) (b : ByteArray) : (⟨(A ++ b.data.toList ++ C).toArray⟩ : ByteArray).extract A.length (A.length + b.size) = b := by
  ext1
  rw [ByteArray.data_extract]
  apply Array.toList_inj.1
  rw [Array.toList_extract]
  simp only [List.extract]
  rw [show A.length + b.size - A.length = b.size by omega, List.append_assoc, List.drop_left]
  rw [← data_size b, List.take_left]
theorem pok_print (st da re : ByteArray) (h l : Int) (hf : Fit st da re) : POk ⟨(printL st da re h l).toArray⟩ := by
  obtain ⟨z1, z2, z3⟩ := hf
  unfold POk
  simp only [rdN_L, size_list, rd4 st da re h l z1, rd12 st da re h l z2, rd20 st da re h l z3, print_length]
  refine ⟨by omega, print_mark st da re h l, ⟨z1, z2, z3⟩, by omega, ?_⟩
  rw [show 52 + (st.size + da.size + re.size) - 8 = 44 + (st.size + da.size + re.size) by omega, print_sum]
  show sumL ((printL st da re h l).take _) = _
  rw [print_take]
theorem parsed_print (st da re : ByteArray) (h l : Int) (hf : Fit st da re) (u1 : -9223372036854775808 ≤ h ∧ h ≤ 9223372036854775807) (u2 : -9223372036854775808 ≤ l ∧ l ≤ 9223372036854775807) : parsedV ⟨(printL st da re h l).toArray⟩ = stateV st da re h l := by
  obtain ⟨z1, z2, z3⟩ := hf
  unfold parsedV
  simp only [rdN_L, rd4 st da re h l z1, rd12 st da re h l z2, rd20 st da re h l z3, rd28, rd36, wrap_cN h u1, wrap_cN l u2]
  have hd : (heads st.size da.size re.size (cN h) (cN l)).length = 44 := rfl
  obtain ⟨H, hH⟩ : ∃ H, heads st.size da.size re.size (cN h) (cN l) = H := ⟨_, rfl⟩
  obtain ⟨S, hS⟩ : ∃ S, le8 (sumL (bodyL st da re h l)) = S := ⟨_, rfl⟩
  have hP : printL st da re h l = H ++ st.data.toList ++ (da.data.toList ++ re.data.toList ++ S) := by
    unfold printL; rw [hS]; unfold bodyL; rw [hH, cat3_toList]; simp only [List.append_assoc]
  rw [hH] at hd
  have x1 := ext_mid H (da.data.toList ++ re.data.toList ++ S) st
  have x2 := ext_mid (H ++ st.data.toList) (re.data.toList ++ S) da
  have x3 := ext_mid (H ++ st.data.toList ++ da.data.toList) S re
  have e2 : H ++ st.data.toList ++ da.data.toList ++ (re.data.toList ++ S) = H ++ st.data.toList ++ (da.data.toList ++ re.data.toList ++ S) := by simp only [List.append_assoc]
  have e3 : H ++ st.data.toList ++ da.data.toList ++ re.data.toList ++ S = H ++ st.data.toList ++ (da.data.toList ++ re.data.toList ++ S) := by simp only [List.append_assoc]
  rw [e2] at x2
  rw [e3] at x3
  rw [← hP] at x1 x2 x3
  rw [hd] at x1
  rw [List.length_append, hd, data_size] at x2
  rw [List.length_append, List.length_append, hd, data_size, data_size] at x3
  rw [x1, x2, x3]
theorem not_cut (st da re : ByteArray) (h l : Int) (hf : Fit st da re) (k : Nat) (hk : k < (printL st da re h l).length) : ¬ POk ⟨((printL st da re h l).take k).toArray⟩ := by
  obtain ⟨z1, z2, z3⟩ := hf
  rintro ⟨h1, _, _, h2, _⟩
  rw [print_length] at hk
  simp only [rdN_L, size_list, List.length_take, print_length] at h1 h2
  rw [rdL_take _ _ _ (by omega), rdL_take _ _ _ (by omega), rdL_take _ _ _ (by omega), rd4 st da re h l z1, rd12 st da re h l z2, rd20 st da re h l z3] at h2
  omega
theorem not_more (st da re : ByteArray) (h l : Int) (hf : Fit st da re) (m : List UInt8) (hm : 0 < m.length) : ¬ POk ⟨(printL st da re h l ++ m).toArray⟩ := by
  obtain ⟨z1, z2, z3⟩ := hf
  rintro ⟨h1, _, _, h2, _⟩
  have hl := print_length st da re h l
  simp only [rdN_L, size_list, List.length_append] at h1 h2
  rw [rdL_more _ _ _ (by omega), rdL_more _ _ _ (by omega), rdL_more _ _ _ (by omega), rd4 st da re h l z1, rd12 st da re h l z2, rd20 st da re h l z3] at h2
  omega
theorem not_other (st da re : ByteArray) (h l : Int) (hf : Fit st da re) (k : Nat) (hk : k < (printL st da re h l).length) (c : UInt8) (hc : c ≠ (printL st da re h l)[k]) : ¬ POk ⟨((printL st da re h l).set k c).toArray⟩ := by
  rintro ⟨_, _, _, _, h3⟩
  have hl := print_length st da re h l
  have hbl := body_length st da re h l
  simp only [rdN_L, size_list, List.length_set] at h3
  rw [hl, show 52 + (st.size + da.size + re.size) - 8 = 44 + (st.size + da.size + re.size) by omega, ← hbl] at h3
  change sumL (((printL st da re h l).set k c).take _) = _ at h3
  obtain ⟨B, hB⟩ : ∃ B, bodyL st da re h l = B := ⟨_, rfl⟩
  have hP : printL st da re h l = B ++ le8 (sumL B) := by unfold printL; rw [hB]
  rw [hB] at h3 hbl
  simp only [hP] at h3 hk hc
  by_cases hkb : k < B.length
  · rw [List.set_append_left _ _ hkb, List.take_left' (by rw [List.length_set])] at h3
    rw [List.getElem_append_left hkb] at hc
    refine sum_set B k hkb c hc ?_
    rw [h3]
    have := rdL_at (B.set k c) [] (sumL B) (sumL_lt _)
    rw [List.append_nil, List.length_set] at this
    exact this
  · have hk8 : k - B.length < (le8 (sumL B)).length := by rw [List.length_append] at hk; omega
    rw [List.set_append_right _ _ (by omega), List.take_left' rfl] at h3
    rw [List.getElem_append_right (by omega)] at hc
    obtain ⟨E, hE⟩ : ∃ E, le8 (sumL B) = E := ⟨_, rfl⟩
    have hrd := rdL_at B [] (sumL B) (sumL_lt _)
    rw [List.append_nil, hE] at hrd
    simp only [hE] at h3 hk8 hc
    rw [← hrd] at h3
    have he8 : E.length = 8 := by rw [← hE]; exact le8_length _
    have hin := horF_inj _ _ h3 (k - B.length) (by omega)
    have hbk : B.length + (k - B.length) = k := by omega
    simp only [hbk] at hin
    rw [List.getD_eq_getElem?_getD, List.getD_eq_getElem?_getD, List.getElem?_append_right (by omega), List.getElem?_append_right (by omega), List.getElem?_set_self (by omega), List.getElem?_eq_getElem (by omega)] at hin
    simp at hin
    exact hc hin.symm
end Go.Proofs.YtpbloennjcjgoaaDoor
