import Derived.Test.YtoaiiimnfgbcaaaImE
namespace Go.Proofs.Ytoaiiimnfgbcaaa
open Go.RowKit
set_option linter.unusedVariables false
set_option linter.unusedSimpArgs false
/-! plain: rows, bytes laid over bytes -/
theorem reg_of {L : Lay} (h : L.ok) (r : Nat) (a : Int) (h1 : 1 ≤ r) (h5 : r ≤ 5) (ha : (L.beg r : Int) ≤ a) (hb : a < L.beg (r + 1)) : L.reg a = r := by
  have m := Lay.mono h
  rcases (by omega : r = 1 ∨ r = 2 ∨ r = 3 ∨ r = 4 ∨ r = 5) with rfl | rfl | rfl | rfl | rfl <;> simp only [Lay.beg] at ha hb <;> unfold Lay.reg
  · rw [if_neg (by omega : ¬ a < 0), if_pos (by omega : a < L.b2)]
  · rw [if_neg (by omega : ¬ a < 0), if_neg (by omega : ¬ a < L.b2), if_pos (by omega : a < L.b3)]
  · rw [if_neg (by omega : ¬ a < 0), if_neg (by omega : ¬ a < L.b2), if_neg (by omega : ¬ a < L.b3), if_pos (by omega : a < L.b4)]
  · rw [if_neg (by omega : ¬ a < 0), if_neg (by omega : ¬ a < L.b2), if_neg (by omega : ¬ a < L.b3), if_neg (by omega : ¬ a < L.b4), if_pos (by omega : a < L.b5)]
  · rw [if_neg (by omega : ¬ a < 0), if_neg (by omega : ¬ a < L.b2), if_neg (by omega : ¬ a < L.b3), if_neg (by omega : ¬ a < L.b4), if_neg (by omega : ¬ a < L.b5), if_pos (by omega : a < L.b6)]
theorem row_in {L : Lay} (h : L.ok) {o s : Bool} {mode n right : Int} (r : Nat) (a : Int) (h1 : 1 ≤ r) (h5 : r ≤ 5) (ha : (L.beg r : Int) ≤ a) (hb : a < L.beg (r + 1)) (hn : a + n ≤ L.beg (r + 1)) (hm : mayN o s mode r = 3 ∨ mayN o s mode r = 1 ∧ right = 1) : rowOk L o s mode a n right := by
  have e := reg_of h r a h1 h5 ha hb
  unfold rowOk
  rw [e]
  exact ⟨by omega, by omega, hm⟩
theorem row_not {L : Lay} (h : L.ok) {o s : Bool} {mode n right : Int} (r : Nat) (a : Int) (h1 : 1 ≤ r) (h5 : r ≤ 5) (ha : (L.beg r : Int) ≤ a) (hb : a < L.beg (r + 1)) (hm : ¬ (mayN o s mode r = 3 ∨ mayN o s mode r = 1 ∧ right = 1)) : ¬ rowOk L o s mode a n right := by
  have e := reg_of h r a h1 h5 ha hb
  unfold rowOk
  rw [e]
  exact fun g => hm g.2.2
theorem may_sys (o : Bool) (r : Int) (h1 : 1 ≤ r) (h5 : r ≤ 5) : mayN o false 0 r = 3 := by
  unfold mayN
  rw [if_neg (by omega), if_neg (by simp), if_pos (.inl rfl)]
theorem may_stu (o s : Bool) (mode : Int) (hm : mode = 0 ∨ mode = 1 ∨ mode = 2) : mayN o s mode 3 = 3 := by
  rcases hm with rfl | rfl | rfl <;> cases o <;> cases s <;> rfl
theorem from_of (L : Lay) (r : Nat) (h1 : 1 ≤ r) (h5 : r ≤ 5) : L.from_ r = L.beg r ∧ L.to_ r = L.beg (r + 1) := by
  unfold Lay.from_ Lay.to_
  rw [if_neg (by omega), if_neg (by omega), if_neg (by omega), if_neg (by omega)]
  exact ⟨rfl, rfl⟩
theorem getD_in (B cs : List UInt8) (off i : Nat) (hf : off + cs.length ≤ B.length) (h1 : off ≤ i) (h2 : i < off + cs.length) : (splice B off cs).getD i 0 = cs.getD (i - off) 0 := by
  unfold splice
  rw [List.getD_eq_getElem?_getD, List.getD_eq_getElem?_getD, List.getElem?_append_right (by rw [List.length_take]; omega), List.length_take, List.getElem?_append_left (by omega)]
  congr 2; omega
theorem getD_lo (B cs : List UInt8) (off i : Nat) (hf : off + cs.length ≤ B.length) (h1 : i < off) : (splice B off cs).getD i 0 = B.getD i 0 := by
  unfold splice
  rw [List.getD_eq_getElem?_getD, List.getD_eq_getElem?_getD, List.getElem?_append_left (by rw [List.length_take]; omega), List.getElem?_take_of_lt h1]
theorem getD_hi (B cs : List UInt8) (off i : Nat) (hf : off + cs.length ≤ B.length) (h1 : off + cs.length ≤ i) : (splice B off cs).getD i 0 = B.getD i 0 := by
  unfold splice
  rw [List.getD_eq_getElem?_getD, List.getD_eq_getElem?_getD, List.getElem?_append_right (by rw [List.length_take]; omega), List.length_take, List.getElem?_append_right (by omega), List.getElem?_drop]
  congr 2; omega
theorem getD_out (B cs : List UInt8) (off i : Nat) (hf : off + cs.length ≤ B.length) (h : i < off ∨ off + cs.length ≤ i) : (splice B off cs).getD i 0 = B.getD i 0 := by
  rcases h with h | h
  · exact getD_lo B cs off i hf h
  · exact getD_hi B cs off i hf h
theorem getD_set (B : List UInt8) (k i : Nat) (c : UInt8) : (B.set k c).getD i 0 = if i = k ∧ k < B.length then c else B.getD i 0 := by
  rw [List.getD_eq_getElem?_getD, List.getD_eq_getElem?_getD, List.getElem?_set]
  by_cases h : k = i
  · subst h
    by_cases h2 : k < B.length
    · simp [h2]
    · simp [h2]
  · rw [if_neg h, if_neg (by omega)]
theorem list_ext (A B : List UInt8) (hl : A.length = B.length) (h : ∀ i, i < A.length → A.getD i 0 = B.getD i 0) : A = B := by
  refine List.ext_getElem hl fun i h1 h2 => ?_
  have := h i h1
  rwa [List.getD_eq_getElem?_getD, List.getD_eq_getElem?_getD, List.getElem?_eq_getElem h1, List.getElem?_eq_getElem h2] at this
theorem getD_drop (B : List UInt8) (x n i : Nat) (h : i < n) : ((B.drop x).take n).getD i 0 = B.getD (x + i) 0 := by
  rw [List.getD_eq_getElem?_getD, List.getD_eq_getElem?_getD, List.getElem?_take_of_lt h, List.getElem?_drop]
theorem cel_same (B : List UInt8) (a : Nat) (v : Int) (hv : isI v) (hf : a + 8 ≤ B.length) : cel (splice B a (by8 v)) a = v := by
  rw [← cel_by8 v hv]
  refine cel_congr _ _ _ _ fun k hk => ?_
  rw [cel_by8 v hv, getD_in _ _ _ _ (by rw [by8_length]; exact hf) (by omega) (by rw [by8_length]; omega)]
  congr 1; omega
theorem cel_far (B cs : List UInt8) (off a : Nat) (hf : off + cs.length ≤ B.length) (h : a + 8 ≤ off ∨ off + cs.length ≤ a) : cel (splice B off cs) a = cel B a := by
  refine cel_congr _ _ _ _ fun k hk => ?_
  exact getD_out _ _ _ _ hf (by omega)
theorem cel_setfar (B : List UInt8) (k a : Nat) (c : UInt8) (h : k < a ∨ a + 8 ≤ k) : cel (B.set k c) a = cel B a := by
  refine cel_congr _ _ _ _ fun j hj => ?_
  rw [getD_set, if_neg (by omega)]
end Go.Proofs.Ytoaiiimnfgbcaaa
