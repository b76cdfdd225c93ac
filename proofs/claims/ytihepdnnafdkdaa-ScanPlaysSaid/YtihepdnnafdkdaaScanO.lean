import Derived.Test.YtihepdnnafdkdaaScanC
import Derived.Lib.AppendStr
import Derived.Laws.OwnMore
import Derived.OwnWalk
namespace Go.Proofs.Ytihepdnnafdkdaa
open Go.RowKit
set_option linter.unusedVariables false
set_option linter.unusedSimpArgs false
/-! the plain law: words with a blank behind each are read as these words -/
theorem stop_all (p : UInt8 → Bool) (s : ByteArray) : ∀ f k, s.size - k = f → ∀ i (h : i < s.size), k ≤ i → i < stop p s k → p s[i] = true := by
  intro f
  induction f with
  | zero => intro k hf i h h1 h2; omega
  | succ f ih =>
    intro k hf i h h1 h2
    have hk : k < s.size := by omega
    cases hp : p s[k]
    · rw [stop_no p s k hk hp] at h2; omega
    · by_cases e : i = k
      · subst e; exact hp
      · rw [stop_go p s k hk hp] at h2
        exact ih (k + 1) (by omega) i h (by omega) h2
theorem stop_at (p : UInt8 → Bool) (s : ByteArray) : ∀ f k, s.size - k = f → (h : stop p s k < s.size) → p s[stop p s k] = false := by
  intro f
  induction f with
  | zero => intro k hf h; have := stop_ge p s k; omega
  | succ f ih =>
    intro k hf h
    have hk : k < s.size := by omega
    cases hp : p s[k]
    · have e := stop_no p s k hk hp
      simp only [e]; exact hp
    · have e := stop_go p s k hk hp
      have h' : stop p s (k + 1) < s.size := by omega
      simp only [e]
      exact ih (k + 1) (by omega) h'
theorem stop_is (p : UInt8 → Bool) (s : ByteArray) (m : Nat) (hm : m ≤ s.size) (hn : (h : m < s.size) → p s[m] = false) : ∀ f k, m - k = f → k ≤ m → (∀ i (h : i < s.size), k ≤ i → i < m → p s[i] = true) → stop p s k = m := by
  intro f
  induction f with
  | zero =>
    intro k hf hk _
    have e : k = m := by omega
    subst e
    by_cases h : k < s.size
    · exact stop_no p s k h (hn h)
    · exact stop_end p s k (by omega)
  | succ f ih =>
    intro k hf hk ha
    have hks : k < s.size := by omega
    rw [stop_go p s k hks (ha k hks (Nat.le_refl _) (by omega))]
    exact ih (k + 1) (by omega) (by omega) fun i h h1 h2 => ha i h (by omega) h2
theorem ink_not (c : UInt8) : isInk c = !isBlank c := by
  unfold isInk isBlank
  by_cases h : (c.toNat : Int) ≤ 32
  · rw [decide_eq_true h, decide_eq_false (by omega)]; rfl
  · rw [decide_eq_false h, decide_eq_true (by omega)]; rfl
/-- no word is left only at the end -/
theorem word_end (s : ByteArray) (k : Nat) (hk : k ≤ s.size) (h : wEnd s k = wBeg s k) : wBeg s k = s.size ∧ wNext s k = s.size := by
  have b := w_bounds s k hk
  have e : wBeg s k = s.size := by
    by_cases hb : wBeg s k < s.size
    · have h1 : isBlank (s[wBeg s k]'hb) = false := stop_at isBlank s _ k rfl hb
      have h2 : isInk (s[wBeg s k]'hb) = true := by rw [ink_not, h1]; rfl
      have h3 := stop_go isInk s _ hb h2
      have h4 := stop_ge isInk s (wBeg s k + 1)
      unfold wEnd at h
      omega
    · omega
  refine ⟨e, ?_⟩
  unfold wNext nxt
  rw [h, e, if_neg (Nat.lt_irrefl _)]
/-- a text of ink alone, not empty -/
def Inky (w : ByteArray) : Prop := 0 < w.size ∧ ∀ j (h : j < w.size), isInk w[j] = true
theorem word_inky (s : ByteArray) (k : Nat) (hk : k ≤ s.size) (h : wBeg s k < wEnd s k) : Inky (s.extract (wBeg s k) (wEnd s k)) := by
  have b := w_bounds s k hk
  refine ⟨by simp [ByteArray.size_extract]; omega, fun j hj => ?_⟩
  have hj' : j < wEnd s k - wBeg s k := by simp [ByteArray.size_extract] at hj; omega
  rw [ByteArray.getElem_extract]
  exact stop_all isInk s _ (wBeg s k) rfl _ (by omega) (by omega) (by show wBeg s k + j < wEnd s k; omega)
def flat (ws : List ByteArray) (x : UInt8) : List UInt8 := ws.flatMap fun w => w.data.toList ++ [x]
theorem flat_push (ws : List ByteArray) (x : UInt8) (w : ByteArray) : flat (ws ++ [w]) x = flat ws x ++ w.data.toList ++ [x] := by
  unfold flat; simp
theorem flat_at (ws : List ByteArray) (x : UInt8) (i : Nat) (h : i < ws.length) : flat ws x = flat (ws.take i) x ++ (ws[i].data.toList ++ ([x] ++ flat (ws.drop (i + 1)) x)) := by
  unfold flat
  conv => lhs; rw [← List.take_append_drop i ws, List.drop_eq_getElem_cons h]
  rw [List.flatMap_append, List.flatMap_cons, List.append_assoc]
theorem flat_next (ws : List ByteArray) (x : UInt8) (i : Nat) (h : i < ws.length) : (flat (ws.take (i + 1)) x).length = (flat (ws.take i) x).length + ws[i].size + 1 := by
  rw [List.take_succ_eq_append_getElem h, flat_push]
  have : ws[i].data.toList.length = ws[i].size := by first | (simp; done) | (simp; rfl)
  simp only [List.length_append, this]; simp
theorem at_list (l : List UInt8) (i : Nat) (h : i < (ByteArray.mk l.toArray).size) (h' : i < l.length) : (ByteArray.mk l.toArray)[i] = l[i] := rfl
theorem size_list (l : List UInt8) : (ByteArray.mk l.toArray).size = l.length := rfl
theorem read_word (l1 l2 : List UInt8) (w : ByteArray) (x : UInt8) (hw : Inky w) (hx : isBlank x = true) :
    wBeg ⟨(l1 ++ (w.data.toList ++ ([x] ++ l2))).toArray⟩ l1.length = l1.length ∧ wEnd ⟨(l1 ++ (w.data.toList ++ ([x] ++ l2))).toArray⟩ l1.length = l1.length + w.size ∧
    wNext ⟨(l1 ++ (w.data.toList ++ ([x] ++ l2))).toArray⟩ l1.length = l1.length + w.size + 1 ∧
    (ByteArray.mk (l1 ++ (w.data.toList ++ ([x] ++ l2))).toArray).extract l1.length (l1.length + w.size) = w := by
  have hl : w.data.toList.length = w.size := by first | (simp; done) | (simp; rfl)
  have hs : (ByteArray.mk (l1 ++ (w.data.toList ++ ([x] ++ l2))).toArray).size = l1.length + w.size + 1 + l2.length := by
    rw [size_list]; simp only [List.length_append, hl]; simp; omega
  have hi : ∀ j (h : j < w.size) (h2 : l1.length + j < (ByteArray.mk (l1 ++ (w.data.toList ++ ([x] ++ l2))).toArray).size), (ByteArray.mk (l1 ++ (w.data.toList ++ ([x] ++ l2))).toArray)[l1.length + j] = w[j] := by
    intro j h h2
    have h3 : l1.length + j < (l1 ++ (w.data.toList ++ ([x] ++ l2))).length := h2
    rw [at_list _ _ h2 h3, List.getElem_append_right (by omega)]
    rw [List.getElem_append_left (by omega)]
    simp; rfl
  have hxx : ∀ (h2 : l1.length + w.size < (ByteArray.mk (l1 ++ (w.data.toList ++ ([x] ++ l2))).toArray).size), (ByteArray.mk (l1 ++ (w.data.toList ++ ([x] ++ l2))).toArray)[l1.length + w.size] = x := by
    intro h2
    have h3 : l1.length + w.size < (l1 ++ (w.data.toList ++ ([x] ++ l2))).length := h2
    rw [at_list _ _ h2 h3, List.getElem_append_right (by omega), List.getElem_append_right (by omega)]
    simp [hl]
  have e1 : wBeg ⟨(l1 ++ (w.data.toList ++ ([x] ++ l2))).toArray⟩ l1.length = l1.length := by
    have h0 : l1.length + 0 < (ByteArray.mk (l1 ++ (w.data.toList ++ ([x] ++ l2))).toArray).size := by omega
    refine stop_no isBlank _ _ h0 ?_
    have := hi 0 hw.1 h0
    have g := hw.2 0 hw.1
    rw [ink_not] at g
    simp only [Nat.add_zero] at this
    rw [this]; simpa using g
  have e2 : wEnd ⟨(l1 ++ (w.data.toList ++ ([x] ++ l2))).toArray⟩ l1.length = l1.length + w.size := by
    unfold wEnd
    rw [e1]
    refine stop_is isInk _ _ (by omega) (fun h => ?_) _ _ rfl (by omega) (fun i h h1 h2 => ?_)
    · rw [hxx h, ink_not, hx]; rfl
    · obtain ⟨j, rfl⟩ : ∃ j, i = l1.length + j := ⟨i - l1.length, by omega⟩
      rw [hi j (by omega) h]
      exact hw.2 j (by omega)
  refine ⟨e1, e2, ?_, ?_⟩
  · unfold wNext nxt
    rw [e2, if_pos (by omega)]
  · apply ByteArray.ext
    apply Array.ext'
    simp [ByteArray.data_extract]
theorem read_flat (ws : List ByteArray) (x : UInt8) (hw : ∀ w ∈ ws, Inky w) (hx : isBlank x = true) (i : Nat) (h : i < ws.length) :
    wBeg ⟨(flat ws x).toArray⟩ (flat (ws.take i) x).length = (flat (ws.take i) x).length ∧ wEnd ⟨(flat ws x).toArray⟩ (flat (ws.take i) x).length = (flat (ws.take i) x).length + ws[i].size ∧
    wNext ⟨(flat ws x).toArray⟩ (flat (ws.take i) x).length = (flat (ws.take (i + 1)) x).length ∧
    (ByteArray.mk (flat ws x).toArray).extract (flat (ws.take i) x).length ((flat (ws.take i) x).length + ws[i].size) = ws[i] ∧ (flat (ws.take i) x).length ≤ (flat ws x).length := by
  have r := read_word (flat (ws.take i) x) (flat (ws.drop (i + 1)) x) ws[i] x (hw _ (List.getElem_mem h)) hx
  rw [← flat_at ws x i h] at r
  refine ⟨r.1, r.2.1, ?_, r.2.2.2, ?_⟩
  · rw [flat_next ws x i h]; exact r.2.2.1
  · rw [flat_at ws x i h]; simp
theorem read_flat_end (s : ByteArray) : wBeg s s.size = s.size ∧ wEnd s s.size = s.size ∧ wNext s s.size = s.size := by
  have e1 : wBeg s s.size = s.size := stop_end _ _ _ (Nat.le_refl _)
  have e2 : wEnd s s.size = s.size := by unfold wEnd; rw [e1]; exact stop_end _ _ _ (Nat.le_refl _)
  exact ⟨e1, e2, by unfold wNext nxt; rw [e2, if_neg (Nat.lt_irrefl _)]⟩
end Go.Proofs.Ytihepdnnafdkdaa
