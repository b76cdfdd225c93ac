import Derived.Test.YtihepdnnafdkdaaScanJ
import Derived.Shelf.GgClosure.StringsIndexFuncTop
namespace Go.Proofs.Ytihepdnnafdkdaa
open Go.RowKit
set_option linter.unusedVariables false
set_option linter.unusedSimpArgs false
/-! a blank rune is a blank byte -/
theorem get_is (s : ByteArray) (i : Nat) (h : i < s.size) : s.get! i = s[i] := by
  cases s
  show Array.getD _ _ _ = _
  simp [Array.getD, ByteArray.getElem_eq_getElem_data]
  exact dif_pos h
theorem dec_low (s : ByteArray) (i : Nat) (h : i < s.size) (hb : s[i].toNat < 128) : Utf8.decode s i = (s[i].toNat, 1) := by
  unfold Utf8.decode
  simp [get_is s i h, hb]
theorem dec_high (s : ByteArray) (i : Nat) (h : i < s.size) (hb : 128 ≤ s[i].toNat) :
    128 ≤ (Utf8.decode s i).1 ∧ 1 ≤ (Utf8.decode s i).2 ∧ ∀ k, 1 ≤ k → k < (Utf8.decode s i).2 → ∃ g : i + k < s.size, 128 ≤ s[i + k].toNat := by
  unfold Utf8.decode
  simp only [Nat.add_zero, get_is s i h]
  rw [if_neg (by omega)]
  have ct : ∀ k, (decide (i + k < s.size) && (s.get! (i + k)).toNat / 64 == 2) = true → ∃ g : i + k < s.size, 128 ≤ s[i + k].toNat := by
    intro k hk
    have : i + k < s.size ∧ (s.get! (i + k)).toNat / 64 = 2 := by simpa using hk
    refine ⟨this.1, ?_⟩
    have e := this.2
    rw [get_is s _ this.1] at e
    omega
  split
  · rename_i c
    have c := (Bool.and_eq_true _ _).mp c
    split
    · refine ⟨by omega, by simp, ?_⟩
      intro k h1 h2
      have : k = 1 := by simp at h2; omega
      subst this; exact ct 1 c.2
    · exact ⟨by simp [Utf8.runeError], by simp, fun k h1 h2 => by simp at h2; omega⟩
  · split
    · rename_i c
      have c := (Bool.and_eq_true _ _).mp c
      have c1 := (Bool.and_eq_true _ _).mp c.1
      split
      · rename_i d
        have d := (Bool.and_eq_true _ _).mp d
        have d1 := of_decide_eq_true d.1
        refine ⟨by simp only []; omega, by simp, ?_⟩
        intro k h1 h2
        have : k = 1 ∨ k = 2 := by simp at h2; omega
        rcases this with rfl | rfl
        · exact ct 1 c1.2
        · exact ct 2 c.2
      · exact ⟨by simp [Utf8.runeError], by simp, fun k h1 h2 => by simp at h2; omega⟩
    · split
      · rename_i c
        have c := (Bool.and_eq_true _ _).mp c
        have c1 := (Bool.and_eq_true _ _).mp c.1
        have c2 := (Bool.and_eq_true _ _).mp c1.1
        split
        · rename_i d
          have d := (Bool.and_eq_true _ _).mp d
          have d1 := of_decide_eq_true d.1
          refine ⟨by simp only []; omega, by simp, ?_⟩
          intro k h1 h2
          have : k = 1 ∨ k = 2 ∨ k = 3 := by simp at h2; omega
          rcases this with rfl | rfl | rfl
          · exact ct 1 c2.2
          · exact ct 2 c1.2
          · exact ct 3 c.2
        · exact ⟨by simp [Utf8.runeError], by simp, fun k h1 h2 => by simp at h2; omega⟩
      · exact ⟨by simp [Utf8.runeError], by simp, fun k h1 h2 => by simp at h2; omega⟩
theorem stop_past (p : UInt8 → Bool) (s : ByteArray) (i : Nat) : ∀ n, (∀ k, k < n → ∃ g : i + k < s.size, p s[i + k] = true) → stop p s i = stop p s (i + n) := by
  intro n
  induction n with
  | zero => intro _; rfl
  | succ n ih =>
    intro h
    obtain ⟨g, hp⟩ := h n (by omega)
    rw [ih (fun k hk => h k (by omega)), stop_go p s (i + n) g hp]
    rfl
theorem idx_ink (s : ByteArray) : ∀ f pos, s.size ≤ pos + f → pos ≤ s.size → (decide (0 ≤ Lib.idxFuncFrom (fun r => decide (r ≤ 32)) true s f pos) = !decide (stop isInk s pos = s.size)) := by
  intro f
  induction f with
  | zero =>
    intro pos hf hp
    have e : pos = s.size := by omega
    subst e
    rw [stop_end _ _ _ (Nat.le_refl _)]
    simp [Lib.idxFuncFrom]
  | succ f ih =>
    intro pos hf hp
    unfold Lib.idxFuncFrom
    by_cases h : pos < s.size
    · rw [if_pos h]
      by_cases hb : s[pos].toNat < 128
      · rw [dec_low s pos h hb]
        by_cases h32 : s[pos].toNat ≤ 32
        · rw [if_pos (by simpa using h32), stop_no isInk s pos h (by simp [isInk]; omega)]
          simp; omega
        · rw [if_neg (by simpa using h32), stop_go isInk s pos h (by simp [isInk]; omega)]
          exact ih (pos + 1) (by omega) (by omega)
      · obtain ⟨q1, q2, q3⟩ := dec_high s pos h (by omega)
        rw [if_neg (by simp; omega)]
        have sp : stop isInk s pos = stop isInk s (pos + (Utf8.decode s pos).2) := by
          refine stop_past isInk s pos _ fun k hk => ?_
          by_cases hk0 : k = 0
          · subst hk0; exact ⟨h, by simp [isInk]; omega⟩
          · obtain ⟨g, hg⟩ := q3 k (by omega) hk
            exact ⟨g, by simp [isInk]; omega⟩
        rw [sp]
        refine ih _ (by omega) ?_
        by_cases hn : (Utf8.decode s pos).2 = 1
        · omega
        · obtain ⟨g, _⟩ := q3 ((Utf8.decode s pos).2 - 1) (by omega) (by omega)
          omega
    · rw [if_neg h]
      have e : pos = s.size := by omega
      subst e
      rw [stop_end _ _ _ (Nat.le_refl _)]
      simp
end Go.Proofs.Ytihepdnnafdkdaa
