import Derived.Test.YtkopgjdnfjgbjaaStF
namespace Go.Proofs.Ytkopgjdnfjgbjaa
open Go.RowKit
set_option linter.unusedVariables false
set_option linter.unusedSimpArgs false
/-! the plain law of cells laid into bytes -/
section
variable (f : Nat)
theorem cellsplice_len (B : List UInt8) (k : Nat) (v : Int) (h : f + 8 * (k + 1) ≤ B.length) : (splice B (f + 8 * k) (by8 v)).length = B.length := by
  refine splice_len B _ _ ?_
  rw [by8_length]; omega
theorem laid_len (vs : List Int) : ∀ (B : List UInt8) (k : Nat), f + 8 * (k + vs.length) ≤ B.length → (laid B f k vs).length = B.length := by
  induction vs with
  | nil => intro B k _; rfl
  | cons v vs ih =>
    intro B k h
    simp only [List.length_cons] at h
    show (laid (splice B (f + 8 * k) (by8 v)) f (k + 1) vs).length = B.length
    have e := cellsplice_len f B k v (by omega)
    rw [ih _ _ (by rw [e]; omega), e]
theorem laid_far (vs : List Int) : ∀ (B : List UInt8) (k i : Nat), f + 8 * (k + vs.length) ≤ B.length → (i < f + 8 * k ∨ f + 8 * (k + vs.length) ≤ i) → (laid B f k vs).getD i 0 = B.getD i 0 := by
  induction vs with
  | nil => intro B k i _ _; rfl
  | cons v vs ih =>
    intro B k i h hi
    simp only [List.length_cons] at h hi
    show (laid (splice B (f + 8 * k) (by8 v)) f (k + 1) vs).getD i 0 = B.getD i 0
    have e := cellsplice_len f B k v (by omega)
    rw [ih _ _ _ (by rw [e]; omega) (by omega), getD_out _ _ _ _ (by rw [by8_length]; omega) (by rw [by8_length]; omega)]
theorem laid_celfar (vs : List Int) : ∀ (B : List UInt8) (k a : Nat), f + 8 * (k + vs.length) ≤ B.length → (a + 8 ≤ f + 8 * k ∨ f + 8 * (k + vs.length) ≤ a) → cel (laid B f k vs) a = cel B a := by
  induction vs with
  | nil => intro B k i _ _; rfl
  | cons v vs ih =>
    intro B k i h hi
    simp only [List.length_cons] at h hi
    show cel (laid (splice B (f + 8 * k) (by8 v)) f (k + 1) vs) i = cel B i
    have e := cellsplice_len f B k v (by omega)
    rw [ih _ _ _ (by rw [e]; omega) (by omega), cel_far _ _ _ _ (by rw [by8_length]; omega) (by rw [by8_length]; omega)]
theorem laid_cel (vs : List Int) : ∀ (B : List UInt8) (k i : Nat), f + 8 * (k + vs.length) ≤ B.length → (∀ v ∈ vs, isI v) → (h : i < vs.length) → cel (laid B f k vs) (f + 8 * (k + i)) = vs[i] := by
  induction vs with
  | nil => intro B k i _ _ h; cases h
  | cons v vs ih =>
    intro B k i h hv hi
    simp only [List.length_cons] at h hi
    show cel (laid (splice B (f + 8 * k) (by8 v)) f (k + 1) vs) _ = _
    have e := cellsplice_len f B k v (by omega)
    match i, hi with
    | 0, _ =>
      rw [laid_celfar _ _ _ _ _ (by rw [e]; omega) (by omega)]
      exact cel_same B _ v (hv v (by simp)) (by omega)
    | i + 1, hi =>
      have := ih (splice B (f + 8 * k) (by8 v)) (k + 1) i (by rw [e]; omega) (fun v hv' => hv v (by simp [hv'])) (by omega)
      rw [show f + 8 * (k + (i + 1)) = f + 8 * (k + 1 + i) from by omega, this]
      simp
theorem laid_append (us vs : List Int) : ∀ (B : List UInt8) (k : Nat), laid B f k (us ++ vs) = laid (laid B f k us) f (k + us.length) vs := by
  induction us with
  | nil => intro B k; rfl
  | cons u us ih =>
    intro B k
    show laid (splice B (f + 8 * k) (by8 u)) f (k + 1) (us ++ vs) = laid (laid (splice B (f + 8 * k) (by8 u)) f (k + 1) us) f (k + (us.length + 1)) vs
    rw [ih, show k + 1 + us.length = k + (us.length + 1) from by omega]
theorem blank_laid (n : Nat) : ∀ (B : List UInt8) (k : Nat), blank B f k n = laid B f k (List.replicate n 0) := by
  induction n with
  | zero => intro B k; rfl
  | succ n ih => intro B k; exact ih _ _
theorem laid_cons (B : List UInt8) (k : Nat) (v : Int) (vs : List Int) : laid B f k (v :: vs) = laid (splice B (f + 8 * k) (by8 v)) f (k + 1) vs := rfl
theorem slide_succ (B : List UInt8) (k n : Nat) : slide B f k (n + 1) = slide (splice B (f + 8 * k) (by8 (cel B (f + 8 * (k + 1))))) f (k + 1) n := rfl
theorem range_map_succ {α : Type} (g : Nat → α) (n : Nat) : (List.range (n + 1)).map g = g 0 :: (List.range n).map fun i => g (i + 1) := by
  rw [List.range_succ_eq_map, List.map_cons, List.map_map]; rfl
theorem slide_laid (n : Nat) : ∀ (B : List UInt8) (k : Nat), f + 8 * (k + n + 1) ≤ B.length → slide B f k n = laid B f k ((List.range n).map fun i => cel B (f + 8 * (k + 1 + i))) := by
  induction n with
  | zero => intro B k _; rfl
  | succ n ih =>
    intro B k h
    rw [slide_succ, range_map_succ, laid_cons, Nat.add_zero]
    have e := cellsplice_len f B k (cel B (f + 8 * (k + 1))) (by omega)
    obtain ⟨v, hv⟩ : ∃ v, cel B (f + 8 * (k + 1)) = v := ⟨_, rfl⟩
    rw [hv] at e ⊢
    have h2 := ih (splice B (f + 8 * k) (by8 v)) (k + 1) (by rw [e]; omega)
    rw [h2]
    have hm : ((List.range n).map fun i => cel (splice B (f + 8 * k) (by8 v)) (f + 8 * (k + 1 + 1 + i))) = (List.range n).map fun i => cel B (f + 8 * (k + 1 + (i + 1))) := by
      apply List.map_congr_left
      intro i hi
      have hi := List.mem_range.1 hi
      rw [cel_far B (by8 v) (f + 8 * k) (f + 8 * (k + 1 + 1 + i)) (by rw [by8_length]; omega) (by rw [by8_length]; omega), show k + 1 + 1 + i = k + 1 + (i + 1) from by omega]
    rw [hm]
/-- what Roll leaves: the cells above move down by one, the cell itself lies on top -/
theorem roll_laid (B : List UInt8) (i depth : Nat) (hi : i < depth) (h : f + 8 * depth ≤ B.length) :
    splice (slide B f i (depth - 1 - i)) (f + 8 * (depth - 1)) (by8 (cel B (f + 8 * i))) = laid B f i (((List.range (depth - 1 - i)).map fun j => cel B (f + 8 * (i + 1 + j))) ++ [cel B (f + 8 * i)]) := by
  rw [laid_append, slide_laid _ _ _ _ (by omega)]
  simp only [List.length_map, List.length_range]
  rw [show i + (depth - 1 - i) = depth - 1 from by omega]
  rfl
/-- all cells of a region behind a write -/
theorem cels_laid (B : List UInt8) (k n : Nat) (vs : List Int) (h : f + 8 * (k + vs.length) ≤ B.length) (hn : k + vs.length ≤ n) (hv : ∀ v ∈ vs, isI v) :
    cels (laid B f k vs) f n = (cels B f n).take k ++ (vs ++ (cels B f n).drop (k + vs.length)) := by
  apply List.ext_getElem
  · simp [cels]; omega
  · intro i h1 h2
    simp only [cels, List.getElem_map, List.getElem_range]
    by_cases c1 : i < k
    · rw [List.getElem_append_left (by simp [cels]; omega), laid_celfar _ _ _ _ _ h (by omega)]
      simp [cels]
    · rw [List.getElem_append_right (by simp [cels]; omega)]
      have hk : ((List.take k (List.map (fun i => cel B (f + 8 * i)) (List.range n)))).length = k := by simp; omega
      simp only [hk]
      by_cases c2 : i - k < vs.length
      · rw [List.getElem_append_left c2, ← laid_cel f vs B k (i - k) h hv c2]
        congr 2
        omega
      · rw [List.getElem_append_right (by omega), laid_celfar _ _ _ _ _ h (by omega)]
        simp only [List.getElem_drop, List.getElem_map, List.getElem_range]
        congr 2
        omega
end
end Go.Proofs.Ytkopgjdnfjgbjaa
