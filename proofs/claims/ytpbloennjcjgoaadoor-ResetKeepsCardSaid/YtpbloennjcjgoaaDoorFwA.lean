import Derived.Test.YtpbloennjcjgoaaDoorOwn
namespace Go.Proofs.YtpbloennjcjgoaaDoor
open Go.RowKit
set_option linter.unusedVariables false
set_option linter.unusedSimpArgs false
/-! names: the program's Same, the document's Same -/
theorem at_is (s : ByteArray) (k : Nat) (hk : k < s.size) : s.data.toList.getD k 0 = s[k] := by
  rw [List.getD_eq_getElem?_getD, List.getElem?_eq_getElem (by simpa using hk)]; rfl
/-- a letter as a small one -/
def lowB (c : UInt8) : UInt8 := if (65 ≤ (c.toNat : Int) ∧ (c.toNat : Int) ≤ 90) then c + 32 else c
theorem low_yes (c : UInt8) (h1 : 65 ≤ (c.toNat : Int)) (h2 : (c.toNat : Int) ≤ 90) : ((lowB c).toNat : Int) = c.toNat + 32 := by
  unfold lowB
  rw [if_pos ⟨h1, h2⟩, UInt8.toNat_add]
  simp; omega
/-- how far two texts are alike, from k on -/
def alike (a b : ByteArray) (k : Nat) : Prop := ∀ i, k ≤ i → i < a.size → lowB (a.data.toList.getD i 0) = lowB (b.data.toList.getD i 0)
noncomputable instance (a b : ByteArray) (k : Nat) : Decidable (alike a b k) := Classical.propDecidable _
noncomputable def sameOk (a b : ByteArray) : Bool := decide (a.size = b.size ∧ alike a b 0)
theorem same_no (a b : ByteArray) (h : ¬ (a.size = b.size ∧ alike a b 0)) : Value.bool (sameOk a b) = .bool false := by
  unfold sameOk; rw [decide_eq_false h]
theorem same_yes (a b : ByteArray) (h1 : a.size = b.size) (h : alike a b 0) : Value.bool (sameOk a b) = .bool true := by
  unfold sameOk; rw [decide_eq_true ⟨h1, h⟩]
theorem or_small (c : UInt8) : bits BinOp.or IntKind.u8 (c.toNat : Int) 32 = ((c ||| 32).toNat : Int) := by
  have h : ∀ n : Fin 256, bits BinOp.or IntKind.u8 ((UInt8.ofNat n.val).toNat : Int) 32 = ((UInt8.ofNat n.val ||| 32).toNat : Int) := by decide +kernel
  have := h ⟨c.toNat, c.toNat_lt⟩
  simpa using this
/-- what lower makes of a byte -/
def lowO (c : UInt8) : UInt8 := if (65 ≤ (c.toNat : Int) ∧ (c.toNat : Int) ≤ 90) then c ||| 32 else c
/-- the first k bytes as small letters -/
def lowL (l : List UInt8) (k : Nat) : List UInt8 := (l.take k).map lowO ++ l.drop k
def lowS (s : ByteArray) : ByteArray := ⟨(s.data.toList.map lowO).toArray⟩
theorem lowL_len (l : List UInt8) (k : Nat) : (lowL l k).length = l.length := by
  unfold lowL; simp; omega
theorem lowL_next (l : List UInt8) (k : Nat) (hk : k < l.length) : (lowL l k).set k (lowO l[k]) = lowL l (k + 1) := by
  unfold lowL
  apply List.ext_getElem
  · simp; omega
  · intro i h1 h2
    rw [List.getElem_set]
    split
    · subst k
      have e2 : min (i + 1) l.length = i + 1 := by omega
      rw [List.getElem_append_left (by simp; omega)]
      simp [List.getElem_take]
    · rename_i g
      simp only [List.getElem_append, List.length_map, List.length_take, List.getElem_map, List.getElem_take, List.getElem_drop]
      have e1 : min k l.length = k := by omega
      have e2 : min (k + 1) l.length = k + 1 := by omega
      simp only [e1, e2]
      split <;> split <;> first | rfl | omega | (congr 1; omega)
theorem lowL_at (l : List UInt8) (k : Nat) (hk : k < l.length) (h : k < (lowL l k).length) : (lowL l k)[k] = l[k] := by
  have e1 : min k l.length = k := by omega
  have e2 : ¬ k < min k l.length := by omega
  unfold lowL
  simp [List.getElem_append, e1, e2]
theorem lowL_all (l : List UInt8) (k : Nat) (hk : l.length ≤ k) : lowL l k = l.map lowO := by
  unfold lowL
  rw [List.take_of_length_le hk, List.drop_eq_nil_of_le hk, List.append_nil]
theorem lowL_same (l : List UInt8) (k : Nat) (hk : k < l.length) (h : lowO l[k] = l[k]) : lowL l k = lowL l (k + 1) := by
  rw [← lowL_next l k hk, h]
  apply List.ext_getElem
  · simp
  · intro i h1 h2
    rw [List.getElem_set]
    split
    · subst k; rw [lowL_at l i hk]
    · rfl
theorem low_same (c : UInt8) : lowO c = lowB c := by
  have h : ∀ n : Fin 256, lowO (UInt8.ofNat n.val) = lowB (UInt8.ofNat n.val) := by decide +kernel
  have := h ⟨c.toNat, c.toNat_lt⟩
  simpa using this
theorem getD_map (l : List UInt8) (i : Nat) (hi : i < l.length) : (l.map lowO)[i]'(by simpa using hi) = lowB (l.getD i 0) := by
  rw [List.getElem_map, low_same, List.getD_eq_getElem?_getD, List.getElem?_eq_getElem hi]; rfl
theorem same_eq (a b : ByteArray) (h : a.size = b.size) : lowS a = lowS b ↔ alike a b 0 := by
  have la : a.data.toList.length = a.size := by first | (simp; done) | (simp; rfl)
  have lb : b.data.toList.length = b.size := by first | (simp; done) | (simp; rfl)
  unfold lowS alike
  constructor
  · intro e i _ hi
    have e2 : a.data.toList.map lowO = b.data.toList.map lowO := by
      injection e with e; simpa using e
    rw [← getD_map _ i (by omega), ← getD_map _ i (by omega)]
    congr 1
  · intro g
    congr 2
    apply List.ext_getElem
    · simp; omega
    · intro i h1 h2
      rw [getD_map _ i (by simpa using h1), getD_map _ i (by simpa using h2)]
      exact g i (by omega) (by have := h1; simp at this; omega)
theorem same_is (a b : ByteArray) (h : a.size = b.size) : sameOk a b = ((lowS a).toList == (lowS b).toList) := by
  have e := same_eq a b h
  unfold sameOk
  by_cases g : alike a b 0
  · rw [decide_eq_true ⟨h, g⟩, e.2 g]; simp
  · rw [decide_eq_false (fun k => g k.2)]
    symm
    rw [beq_eq_false_iff_ne]
    intro k
    refine g (e.1 ?_)
    rw [ByteArray.toList_eq, ByteArray.toList_eq] at k
    cases ha : lowS a; cases hb : lowS b
    simp [ha, hb] at k
    rw [k]
end Go.Proofs.YtpbloennjcjgoaaDoor
