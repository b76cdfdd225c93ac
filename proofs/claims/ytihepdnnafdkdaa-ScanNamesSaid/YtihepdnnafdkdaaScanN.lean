import Derived.Test.YtihepdnnafdkdaaScanM
import Derived.Test.YtihepdnnafdkdaaScanL
namespace Go.Proofs.Ytihepdnnafdkdaa
open Go.RowKit
set_option linter.unusedVariables false
set_option linter.unusedSimpArgs false
theorem low_same (c : UInt8) : lowO c = lowB c := by
  have h : ∀ n : Fin 256, lowO (UInt8.ofNat n.val) = lowB (UInt8.ofNat n.val) := by decide +kernel
  have := h ⟨c.toNat, c.toNat_lt⟩
  simpa using this
theorem getD_map (l : List UInt8) (i : Nat) (hi : i < l.length) : (l.map lowO)[i]'(by simpa using hi) = lowB (l.getD i 0) := by
  rw [List.getElem_map, low_same, List.getD_eq_getElem?_getD, List.getElem?_eq_getElem hi]; rfl
theorem same_eq (a b : ByteArray) (h : a.size = b.size) : lowS a = lowS b ↔ alike a b 0 := by
  have la : a.data.toList.length = a.size := by first | (simp; done) | (simp; rfl)
  have lb : b.data.toList.length = b.size := by first | (simp; done) | (simp; rfl)
  unfold lowS alike
  constructor
  · intro e i _ hi
    have e2 : a.data.toList.map lowO = b.data.toList.map lowO := by
      injection e with e; simpa using e
    rw [← getD_map _ i (by omega), ← getD_map _ i (by omega)]
    congr 1
  · intro g
    congr 2
    apply List.ext_getElem
    · simp; omega
    · intro i h1 h2
      rw [getD_map _ i (by simpa using h1), getD_map _ i (by simpa using h2)]
      exact g i (by omega) (by have := h1; simp at this; omega)
theorem same_is (a b : ByteArray) (h : a.size = b.size) : sameOk a b = ((lowS a).toList == (lowS b).toList) := by
  have e := same_eq a b h
  unfold sameOk
  by_cases g : alike a b 0
  · rw [decide_eq_true ⟨h, g⟩, e.2 g]; simp
  · rw [decide_eq_false (fun k => g k.2)]
    symm
    rw [beq_eq_false_iff_ne]
    intro k
    refine g (e.1 ?_)
    rw [ByteArray.toList_eq, ByteArray.toList_eq] at k
    cases ha : lowS a; cases hb : lowS b
    simp [ha, hb] at k
    rw [k]
set_option maxHeartbeats 1000000 in
theorem same_any (a b : ByteArray) (w : World) (ha : a.size ≤ maxLen) (hb : b.size ≤ maxLen) :
    Calls Try.prog 20 #[.string a, .string b] w fun e w' => e = .returned (.bool (sameOk a b)) ∧ Below w.heap.size w w' := by
  have ha2 : a.size ≤ 9223372036854775807 := Nat.le_trans ha (by decide)
  by_cases h1 : a.size = b.size
  · have i1 : ((a.size : Int) == b.size) = true := by simp [h1]
    have hB : Below w.heap.size w w := Below.refl _ _
    have hE := Lib.hid (same_is a b h1)
    have H1 := Lib.hid h1
    clear h1
    go_enter Try.func20, Try.ntmps20
    go_wp2_with (fail)
    refine (lower_any a _ ha).mono ?_
    rintro e w1 ⟨rfl, hb1⟩
    go_wp2_with (fail)
    refine (lower_any b _ hb).mono ?_
    rintro e w2 ⟨rfl, hb2⟩
    go_wp2
    go_returns
    exact ⟨by rw [hE.out]; rfl, hb1.trans (hb2.mono hb1.size)⟩
  · have i2 : ((a.size : Int) == b.size) = false := by simp; omega
    go_enter Try.func20, Try.ntmps20
    go_wp2
    go_returns
    exact ⟨by rw [same_no a b (fun h => h1 h.1)]; rfl, Below.refl _ _⟩
set_option maxHeartbeats 1000000 in
theorem walk_names (a b : ByteArray) (ha : a.size ≤ maxLen) (hb : b.size ≤ maxLen) (w : World) :
    Calls Try.prog 6 #[.string a, .string b] w fun e w' => e = .returned (.bool true) ∧ Below w.heap.size w w' := by
  go_enter Try.func6, Try.ntmps6
  go_wp2_with (fail)
  refine (shown_any w).mono ?_
  rintro e w0 ⟨rfl, hB0⟩
  go_wp2_with (fail)
  refine (same_any a b _ ha hb).mono ?_
  rintro e w1 ⟨rfl, hB1⟩
  go_wp2_with (fail)
  refine (rsame_any a b _ ha hb).mono ?_
  rintro e w2 ⟨rfl, n, rfl⟩
  go_wp2_with (fail)
  refine (name_any a _ ha).mono ?_
  rintro e w3 ⟨rfl, hB3⟩
  go_wp2_with (fail)
  refine (rname_any a _ ha).mono ?_
  rintro e w4 ⟨rfl, rfl⟩
  go_wp2
  go_returns
  have hB2 : Below w0.heap.size w0 (w1.drewN n) := hB1.trans ⟨rfl, rfl, rfl, Nat.le_refl _, fun _ _ => rfl⟩
  exact ⟨rfl, hB0.trans ((hB2.trans (hB3.mono hB2.size)).mono hB0.size)⟩
end Go.Proofs.Ytihepdnnafdkdaa
