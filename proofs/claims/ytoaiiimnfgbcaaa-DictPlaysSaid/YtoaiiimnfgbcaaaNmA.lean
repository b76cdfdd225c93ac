import Derived.Test.YtoaiiimnfgbcaaaFwA
import Derived.Test.YtoaiiimnfgbcaaaShelf
import Derived.Shelf.GgClosure.StringsIndexFuncTop
namespace Go.Proofs.Ytoaiiimnfgbcaaa
open Go.RowKit
set_option linter.unusedVariables false
set_option linter.unusedSimpArgs false
/-! a name: the program's, the document's -/
def isInk (c : UInt8) : Bool := decide (32 < (c.toNat : Int))
def isNot (x c : UInt8) : Bool := !((c.toNat : Int) == x.toNat)
/-- how far a run of bytes goes -/
def runs (p : UInt8 → Bool) (s : ByteArray) : Nat → Nat → Nat
  | 0, k => k
  | f + 1, k => if k < s.size ∧ p (s.data.toList.getD k 0) = true then runs p s f (k + 1) else k
def stop (p : UInt8 → Bool) (s : ByteArray) (k : Nat) : Nat := runs p s (s.size - k) k
theorem stop_go (p : UInt8 → Bool) (s : ByteArray) (k : Nat) (hk : k < s.size) (h : p s[k] = true) : stop p s k = stop p s (k + 1) := by
  unfold stop
  obtain ⟨f, hf⟩ : ∃ f, s.size - k = f + 1 := ⟨s.size - k - 1, by omega⟩
  rw [hf, show s.size - (k + 1) = f by omega]
  unfold runs
  rw [if_pos ⟨hk, by rw [at_is s k hk]; exact h⟩]
  cases f <;> rfl
theorem stop_no (p : UInt8 → Bool) (s : ByteArray) (k : Nat) (hk : k < s.size) (h : p s[k] = false) : stop p s k = k := by
  unfold stop
  obtain ⟨f, hf⟩ : ∃ f, s.size - k = f + 1 := ⟨s.size - k - 1, by omega⟩
  rw [hf]
  unfold runs
  rw [if_neg]
  rintro ⟨_, h2⟩
  rw [at_is s k hk, h] at h2
  cases h2
theorem stop_end (p : UInt8 → Bool) (s : ByteArray) (k : Nat) (hk : s.size ≤ k) : stop p s k = k := by
  unfold stop
  rw [show s.size - k = 0 by omega]; rfl
theorem runs_ge (p : UInt8 → Bool) (s : ByteArray) : ∀ f k, k ≤ runs p s f k ∧ (k ≤ s.size → runs p s f k ≤ s.size)
  | 0, k => ⟨Nat.le_refl _, fun h => h⟩
  | f + 1, k => by
    unfold runs
    split
    · rename_i h
      have ⟨a, b⟩ := runs_ge p s f (k + 1)
      exact ⟨by omega, fun _ => b (by omega)⟩
    · exact ⟨Nat.le_refl _, fun h => h⟩
theorem stop_ge (p : UInt8 → Bool) (s : ByteArray) (k : Nat) : k ≤ stop p s k := (runs_ge p s _ k).1
theorem stop_le (p : UInt8 → Bool) (s : ByteArray) (k : Nat) (h : k ≤ s.size) : stop p s k ≤ s.size := (runs_ge p s _ k).2 h
/-- a name is what has one to thirty-one bytes, none of them blank -/
def nameOk (s : ByteArray) : Bool := decide (1 ≤ s.size ∧ s.size ≤ 31 ∧ stop isInk s 0 = s.size)
theorem nameOk_no (s : ByteArray) (h : ¬ (1 ≤ s.size ∧ s.size ≤ 31 ∧ stop isInk s 0 = s.size)) : Value.bool (nameOk s) = .bool false := by
  unfold nameOk; rw [decide_eq_false h]
theorem nameOk_yes (s : ByteArray) (h1 : 1 ≤ s.size) (h2 : s.size ≤ 31) (h : stop isInk s 0 = s.size) : Value.bool (nameOk s) = .bool true := by
  unfold nameOk; rw [decide_eq_true ⟨h1, h2, h⟩]
set_option maxHeartbeats 1000000 in
theorem rname_any (s : ByteArray) (w : World) (hs : s.size ≤ maxLen) :
    Calls Try.prog 66 #[.string s] w fun e w' => e = .returned (.bool (nameOk s)) ∧ w' = w := by
  by_cases h1 : s.size < 1
  · have i1 : (s.size : Int) < 1 := by omega
    go_enter Try.func66, Try.ntmps66
    go_wp2
    go_returns
    exact ⟨by rw [nameOk_no s (by omega)]; rfl, rfl⟩
  · have hs2 : s.size ≤ 9223372036854775807 := Nat.le_trans hs (by decide)
    by_cases h2 : 31 < s.size
    · have i1 : ¬ (s.size : Int) < 1 := by omega
      have i2 : 31 < (s.size : Int) := by omega
      go_enter Try.func66, Try.ntmps66
      go_wp2
      go_returns
      exact ⟨by rw [nameOk_no s (by omega)]; rfl, rfl⟩
    · have i1 : ¬ (s.size : Int) < 1 := by omega
      have i2 : ¬ 31 < (s.size : Int) := by omega
      go_enter Try.func66, Try.ntmps66
      go_wp2
      go_loop [3] (fun i => ∃ j : Nat, i = .int .i64 j ∧ j ≤ s.size ∧ stop isInk s 0 = stop isInk s j) (fun i => s.size - (intOf i).toNat)
      case atStart => exact ⟨0, rfl, by omega, rfl⟩
      case round =>
        obtain ⟨j, rfl, hj0, hE⟩ := hrel
        have HE := Lib.hid hE
        clear hE
        have l0 : (0 : Int) ≤ j := by omega
        by_cases hj : j < s.size
        · have j0 : (j : Int) < s.size := by omega
          cases hp : isInk s[j]
          · have E := Lib.hid (HE.out.trans (stop_no _ s j hj hp))
            have q : (s[j].toNat : Int) ≤ 32 := by simpa [isInk] using hp
            go_wp2
            go_returns
            exact ⟨by rw [nameOk_no s (by rw [E.out]; omega)]; rfl, rfl⟩
          · have E := Lib.hid (HE.out.trans (stop_go _ s j hj hp))
            have q : ¬ (s[j].toNat : Int) ≤ 32 := by have : 32 < (s[j].toNat : Int) := by simpa [isInk] using hp
                                                     omega
            go_wp2
            go_round
            case rel => exact ⟨j + 1, by go_num, by omega, E.out⟩
            case measure => simp [intOf]; omega
        · have e : j = s.size := by omega
          subst e
          have E := Lib.hid (HE.out.trans (stop_end _ s _ (Nat.le_refl _)))
          go_wp2
          go_returns
          exact ⟨by rw [nameOk_yes s (by omega) (by omega) E.out]; rfl, rfl⟩
/-! a blank rune is a blank byte -/
theorem get_is (s : ByteArray) (i : Nat) (h : i < s.size) : s.get! i = s[i] := by
  cases s
  show Array.getD _ _ _ = _
  simp [Array.getD, ByteArray.getElem_eq_getElem_data]
  exact dif_pos h
theorem dec_low (s : ByteArray) (i : Nat) (h : i < s.size) (hb : s[i].toNat < 128) : Utf8.decode s i = (s[i].toNat, 1) := by
  unfold Utf8.decode
  simp [get_is s i h, hb]
theorem dec_high (s : ByteArray) (i : Nat) (h : i < s.size) (hb : 128 ≤ s[i].toNat) :
    128 ≤ (Utf8.decode s i).1 ∧ 1 ≤ (Utf8.decode s i).2 ∧ ∀ k, 1 ≤ k → k < (Utf8.decode s i).2 → ∃ g : i + k < s.size, 128 ≤ s[i + k].toNat := by
  unfold Utf8.decode
  simp only [Nat.add_zero, get_is s i h]
  rw [if_neg (by omega)]
  have ct : ∀ k, (decide (i + k < s.size) && (s.get! (i + k)).toNat / 64 == 2) = true → ∃ g : i + k < s.size, 128 ≤ s[i + k].toNat := by
    intro k hk
    have : i + k < s.size ∧ (s.get! (i + k)).toNat / 64 = 2 := by simpa using hk
    refine ⟨this.1, ?_⟩
    have e := this.2
    rw [get_is s _ this.1] at e
    omega
  split
  · rename_i c
    have c := (Bool.and_eq_true _ _).mp c
    split
    · refine ⟨by omega, by simp, ?_⟩
      intro k h1 h2
      have : k = 1 := by simp at h2; omega
      subst this; exact ct 1 c.2
    · exact ⟨by simp [Utf8.runeError], by simp, fun k h1 h2 => by simp at h2; omega⟩
  · split
    · rename_i c
      have c := (Bool.and_eq_true _ _).mp c
      have c1 := (Bool.and_eq_true _ _).mp c.1
      split
      · rename_i d
        have d := (Bool.and_eq_true _ _).mp d
        have d1 := of_decide_eq_true d.1
        refine ⟨by simp only []; omega, by simp, ?_⟩
        intro k h1 h2
        have : k = 1 ∨ k = 2 := by simp at h2; omega
        rcases this with rfl | rfl
        · exact ct 1 c1.2
        · exact ct 2 c.2
      · exact ⟨by simp [Utf8.runeError], by simp, fun k h1 h2 => by simp at h2; omega⟩
    · split
      · rename_i c
        have c := (Bool.and_eq_true _ _).mp c
        have c1 := (Bool.and_eq_true _ _).mp c.1
        have c2 := (Bool.and_eq_true _ _).mp c1.1
        split
        · rename_i d
          have d := (Bool.and_eq_true _ _).mp d
          have d1 := of_decide_eq_true d.1
          refine ⟨by simp only []; omega, by simp, ?_⟩
          intro k h1 h2
          have : k = 1 ∨ k = 2 ∨ k = 3 := by simp at h2; omega
          rcases this with rfl | rfl | rfl
          · exact ct 1 c2.2
          · exact ct 2 c1.2
          · exact ct 3 c.2
        · exact ⟨by simp [Utf8.runeError], by simp, fun k h1 h2 => by simp at h2; omega⟩
      · exact ⟨by simp [Utf8.runeError], by simp, fun k h1 h2 => by simp at h2; omega⟩
theorem stop_past (p : UInt8 → Bool) (s : ByteArray) (i : Nat) : ∀ n, (∀ k, k < n → ∃ g : i + k < s.size, p s[i + k] = true) → stop p s i = stop p s (i + n) := by
  intro n
  induction n with
  | zero => intro _; rfl
  | succ n ih =>
    intro h
    obtain ⟨g, hp⟩ := h n (by omega)
    rw [ih (fun k hk => h k (by omega)), stop_go p s (i + n) g hp]
    rfl
theorem idx_ink (s : ByteArray) : ∀ f pos, s.size ≤ pos + f → pos ≤ s.size → (decide (0 ≤ Lib.idxFuncFrom (fun r => decide (r ≤ 32)) true s f pos) = !decide (stop isInk s pos = s.size)) := by
  intro f
  induction f with
  | zero =>
    intro pos hf hp
    have e : pos = s.size := by omega
    subst e
    rw [stop_end _ _ _ (Nat.le_refl _)]
    simp [Lib.idxFuncFrom]
  | succ f ih =>
    intro pos hf hp
    unfold Lib.idxFuncFrom
    by_cases h : pos < s.size
    · rw [if_pos h]
      by_cases hb : s[pos].toNat < 128
      · rw [dec_low s pos h hb]
        by_cases h32 : s[pos].toNat ≤ 32
        · rw [if_pos (by simpa using h32), stop_no isInk s pos h (by simp [isInk]; omega)]
          simp; omega
        · rw [if_neg (by simpa using h32), stop_go isInk s pos h (by simp [isInk]; omega)]
          exact ih (pos + 1) (by omega) (by omega)
      · obtain ⟨q1, q2, q3⟩ := dec_high s pos h (by omega)
        rw [if_neg (by simp; omega)]
        have sp : stop isInk s pos = stop isInk s (pos + (Utf8.decode s pos).2) := by
          refine stop_past isInk s pos _ fun k hk => ?_
          by_cases hk0 : k = 0
          · subst hk0; exact ⟨h, by simp [isInk]; omega⟩
          · obtain ⟨g, hg⟩ := q3 k (by omega) hk
            exact ⟨g, by simp [isInk]; omega⟩
        rw [sp]
        refine ih _ (by omega) ?_
        by_cases hn : (Utf8.decode s pos).2 = 1
        · omega
        · obtain ⟨g, _⟩ := q3 ((Utf8.decode s pos).2 - 1) (by omega) (by omega)
          omega
    · rw [if_neg h]
      have e : pos = s.size := by omega
      subst e
      rw [stop_end _ _ _ (Nat.le_refl _)]
      simp
theorem rune_any (r : Nat) (w : World) : Calls Try.prog 61 #[.int .i32 (r : Int)] w fun e w' => e = .returned (.bool (decide (r ≤ 32))) ∧ ∃ n, w' = w.drewN n := by
  by_cases h : r ≤ 32
  · have i : (r : Int) ≤ 32 := by omega
    go_enter Try.func61, Try.ntmps61
    go_wp2
    go_returns
    exact ⟨by first | rfl | (rw [decide_eq_true h]; rfl), 0, rfl⟩
  · have i : ¬ (r : Int) ≤ 32 := by omega
    go_enter Try.func61, Try.ntmps61
    go_wp2
    go_returns
    exact ⟨by first | rfl | (rw [decide_eq_false h]; rfl), 0, rfl⟩
theorem has_any (s : ByteArray) (w : World) : Calls Try.prog 60 #[.string s, .func (.func 61) #[] #[]] w fun e w' => e = .returned (.bool (!decide (stop isInk s 0 = s.size))) ∧ Below w.heap.size w w' := by
  have g := Try.strings_ContainsFunc 61 #[] (enters_of Try.func61 (by kernel_rfl) rfl) (fun r => decide (r ≤ 32)) s w (fun W x _ => rune_any x W)
  unfold Lib.idxFunc at g
  rw [idx_ink s s.size 0 (by omega) (by omega)] at g
  exact g
set_option maxHeartbeats 1000000 in
theorem name_any (s : ByteArray) (w : World) (hs : s.size ≤ maxLen) :
    Calls Try.prog 32 #[.string s] w fun e w' => e = .returned (.bool (nameOk s)) ∧ Below w.heap.size w w' := by
  have hs2 : s.size ≤ 9223372036854775807 := Nat.le_trans hs (by decide)
  by_cases h1 : s.size < 1
  · have e : s = ⟨#[]⟩ := by
      cases s; rename_i d
      have : d.size = 0 := by have h : d.size < 1 := h1; omega
      simpa using this
    subst e
    go_enter Try.func32, Try.ntmps32
    go_wp2
    go_returns
    exact ⟨by rw [nameOk_no _ (fun h => absurd h.1 (by decide))]; rfl, Below.refl _ _⟩
  · have n1 : s.toList.isEmpty = false := by
      rw [ByteArray.toList_eq]
      cases s; rename_i d
      have : ¬ d.size < 1 := h1
      simp [List.isEmpty_iff]
      intro g; subst g; exact this (by decide)
    by_cases h2 : 31 < s.size
    · have i1 : ¬ (s.size : Int) ≤ 31 := by omega
      go_enter Try.func32, Try.ntmps32
      go_wp2
      go_returns
      exact ⟨by rw [nameOk_no _ (by omega)]; rfl, Below.refl _ _⟩
    · have i1 : (s.size : Int) ≤ 31 := by omega
      cases hd : decide (stop isInk s 0 = s.size)
      · go_enter Try.func32, Try.ntmps32
        go_wp2_with (fail)
        refine (has_any s w).mono ?_
        rintro e w1 ⟨rfl, hb⟩
        rw [hd]
        go_wp2
        go_returns
        exact ⟨by rw [nameOk_no _ (fun h => of_decide_eq_false hd h.2.2)]; rfl, hb⟩
      · go_enter Try.func32, Try.ntmps32
        go_wp2_with (fail)
        refine (has_any s w).mono ?_
        rintro e w1 ⟨rfl, hb⟩
        rw [hd]
        go_wp2
        go_returns
        exact ⟨by rw [nameOk_yes _ (by omega) (by omega) (of_decide_eq_true hd)]; rfl, hb⟩
end Go.Proofs.Ytoaiiimnfgbcaaa
