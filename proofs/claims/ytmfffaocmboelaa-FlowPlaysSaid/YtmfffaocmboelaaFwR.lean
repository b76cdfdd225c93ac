import Derived.Test.YtmfffaocmboelaaFwM
import Derived.Test.YtmfffaocmboelaaFwN
import Derived.Test.YtmfffaocmboelaaFwO
import Derived.Test.YtmfffaocmboelaaFwP
import Derived.Test.YtmfffaocmboelaaFwQ
namespace Go.Proofs.Ytmfffaocmboelaa
open Go.RowKit
set_option linter.unusedVariables false
set_option linter.unusedSimpArgs false
/-! Word, whole; New, Open, End, Known -/
section
variable {w w' : World} {F : Nat} {own : Nat → Prop} {v : Value} {X : List (Th × Value)}
theorem word_any (s : ByteArray) (here : Int) (h : Fl w F own v X) (hs : s.size ≤ maxLen) :
    Calls Try.prog 9 #[.pointer (some ⟨F, 0, none⟩), .string s, .int .i64 here] w fun e w' => Done w w' F own (step (X.map Prod.fst) (row s) here) e := by
  obtain ⟨r, hr⟩ : ∃ r, row s = r := ⟨_, rfl⟩
  rw [hr]
  have hle := row_le s
  by_cases h17 : r = 17
  · subst h17
    exact (word_17 s here hs hr).mono fun e w' ⟨he, hB⟩ => by
      rw [he]
      exact done_bel h hB (by unfold step; rw [if_pos (Nat.le_refl _)])
  have hr2 : r < 17 := by omega
  clear h17 hle
  obtain ⟨A, c, hv⟩ := own_form h.rw.row
  obtain ⟨n, hn⟩ : ∃ n, X.length = n := ⟨_, rfl⟩
  rw [hn] at hv
  by_cases h0 : n = 0
  · by_cases hw : wantK r = 0
    · match r, hr2 with
      | 0, _ => exact word_e1 s here h hs 0 hr (by decide) (by decide) A c n hv hn h0 rfl rfl
      | 3, _ => exact word_e1 s here h hs 3 hr (by decide) (by decide) A c n hv hn h0 rfl rfl
      | 8, _ => exact word_f1 s here h hs 8 hr (by decide) (by decide) A c n hv hn h0 rfl rfl
      | 9, _ => exact word_f1 s here h hs 9 hr (by decide) (by decide) A c n hv hn h0 rfl rfl
      | 13, _ => exact word_f1 s here h hs 13 hr (by decide) (by decide) A c n hv hn h0 rfl rfl
      | 12, _ =>
        have hX : X = [] := List.eq_nil_of_length_eq_zero (by rw [hn]; exact h0)
        exact word_f0 s here h hs 12 hr (by decide) (by decide) A c n hv hn h0 rfl (by rw [hX]; rfl)
      | 1, _ => exact absurd hw (by decide)
      | 2, _ => exact absurd hw (by decide)
      | 4, _ => exact absurd hw (by decide)
      | 5, _ => exact absurd hw (by decide)
      | 6, _ => exact absurd hw (by decide)
      | 7, _ => exact absurd hw (by decide)
      | 10, _ => exact absurd hw (by decide)
      | 11, _ => exact absurd hw (by decide)
      | 14, _ => exact absurd hw (by decide)
      | 15, _ => exact absurd hw (by decide)
      | 16, _ => exact absurd hw (by decide)
      | k + 17, h => exact absurd h (by omega)
    · exact word_ebad s here h hs r hr hr2 A c n hv hn h0 hw
  · obtain ⟨m, hm⟩ : ∃ m, n = m + 1 := ⟨n - 1, by omega⟩
    obtain ⟨x, hx⟩ : ∃ x, X[m]? = some x := ⟨_, List.getElem?_eq_getElem (by omega)⟩
    obtain ⟨g, hg⟩ : ∃ g, A = some ⟨g, 0, none⟩ := by
      obtain ⟨g, c2, e, _⟩ := h.rw.form (by omega)
      rw [hv] at e
      injection e with e1 _ _
      exact ⟨g, e1⟩
    subst hg
    by_cases hw : wantK r = 0
    · match r, hr2 with
      | 0, _ =>
        by_cases h16 : n = 16
        · exact word_b1n s here h hs 0 hr (by decide) (by decide) g c n m hv hn hm x hx rfl h16 rfl
        · exact word_b1 s here h hs 0 hr (by decide) (by decide) g c n m hv hn hm x hx rfl h16 rfl
      | 3, _ =>
        by_cases h16 : n = 16
        · exact word_b1n s here h hs 3 hr (by decide) (by decide) g c n m hv hn hm x hx rfl h16 rfl
        · exact word_b1 s here h hs 3 hr (by decide) (by decide) g c n m hv hn hm x hx rfl h16 rfl
      | 8, _ =>
        by_cases h16 : n = 16
        · exact word_c1n s here h hs 8 hr (by decide) (by decide) g c n m hv hn hm x hx rfl h16 rfl
        · exact word_c1 s here h hs 8 hr (by decide) (by decide) g c n m hv hn hm x hx rfl h16 rfl
      | 9, _ =>
        by_cases h16 : n = 16
        · exact word_c1n s here h hs 9 hr (by decide) (by decide) g c n m hv hn hm x hx rfl h16 rfl
        · exact word_c1 s here h hs 9 hr (by decide) (by decide) g c n m hv hn hm x hx rfl h16 rfl
      | 13, _ =>
        by_cases h16 : n = 16
        · exact word_c1n s here h hs 13 hr (by decide) (by decide) g c n m hv hn hm x hx rfl h16 rfl
        · exact word_c1 s here h hs 13 hr (by decide) (by decide) g c n m hv hn hm x hx rfl h16 rfl
      | 12, _ =>
        cases hd : doFrom (X.map Prod.fst) (X.map Prod.fst).length with
        | none => exact word_c0 s here h hs 12 hr (by decide) (by decide) g c n m hv hn hm x hx rfl (by unfold eff; simp only [hd])
        | some j => exact word_c2 s here h hs 12 hr (by decide) (by decide) g c n m hv hn hm x hx rfl (by unfold eff; simp only [hd])
      | 1, _ => exact absurd hw (by decide)
      | 2, _ => exact absurd hw (by decide)
      | 4, _ => exact absurd hw (by decide)
      | 5, _ => exact absurd hw (by decide)
      | 6, _ => exact absurd hw (by decide)
      | 7, _ => exact absurd hw (by decide)
      | 10, _ => exact absurd hw (by decide)
      | 11, _ => exact absurd hw (by decide)
      | 14, _ => exact absurd hw (by decide)
      | 15, _ => exact absurd hw (by decide)
      | 16, _ => exact absurd hw (by decide)
      | k + 17, h => exact absurd h (by omega)
    · by_cases hk : x.1.k = wantK r
      · match r, hr2 with
        | 1, _ => exact word_b2 s here h hs 1 hr (by decide) (by decide) g c n m hv hn hm x hx hw hk rfl
        | 6, _ => exact word_b2 s here h hs 6 hr (by decide) (by decide) g c n m hv hn hm x hx hw hk rfl
        | 2, _ => exact word_b4 s here h hs 2 hr (by decide) (by decide) g c n m hv hn hm x hx hw hk rfl
        | 4, _ => exact word_b4 s here h hs 4 hr (by decide) (by decide) g c n m hv hn hm x hx hw hk rfl
        | 5, _ => exact word_b4 s here h hs 5 hr (by decide) (by decide) g c n m hv hn hm x hx hw hk rfl
        | 7, _ => exact word_b4 s here h hs 7 hr (by decide) (by decide) g c n m hv hn hm x hx hw hk rfl
        | 10, _ => exact word_c3 s here h hs 10 hr (by decide) (by decide) g c n m hv hn hm x hx hw hk rfl
        | 11, _ => exact word_c3 s here h hs 11 hr (by decide) (by decide) g c n m hv hn hm x hx hw hk rfl
        | 16, _ => exact word_c3 s here h hs 16 hr (by decide) (by decide) g c n m hv hn hm x hx hw hk rfl
        | 15, _ => exact word_c4 s here h hs 15 hr (by decide) (by decide) g c n m hv hn hm x hx hw hk rfl
        | 14, _ =>
          by_cases h16 : n = 16
          · exact word_c1m s here h hs 14 hr (by decide) (by decide) g c n m hv hn hm x hx hw hk h16 rfl
          · exact word_c1y s here h hs 14 hr (by decide) (by decide) g c n m hv hn hm x hx hw hk h16 rfl
        | 0, _ => exact absurd rfl hw
        | 3, _ => exact absurd rfl hw
        | 8, _ => exact absurd rfl hw
        | 9, _ => exact absurd rfl hw
        | 12, _ => exact absurd rfl hw
        | 13, _ => exact absurd rfl hw
        | k + 17, h => exact absurd h (by omega)
      · exact word_bad s here h hs r hr hr2 g c n m hv hn hm x hx hw hk
end
/-! what a word makes of a flow that is in order -/
/-- at most sixteen are open, none has more than so many places, the lowest one is no OF -/
structure Ord (L : List Th) (i : Nat) : Prop where
  len : L.length ≤ 16
  more : ∀ x ∈ L, x.more.length ≤ i
  low : ∀ x, L.head? = some x → x.k ≠ 6
theorem Ord.mono {L : List Th} {i j : Nat} (h : Ord L i) (hij : i ≤ j) : Ord L j := ⟨h.len, fun x hx => Nat.le_trans (h.more x hx) hij, h.low⟩
theorem Ord.drop {L : List Th} {i : Nat} (h : Ord L i) : Ord L.dropLast i :=
  ⟨by have := h.len; rw [List.length_dropLast]; omega, fun x hx => h.more x (List.dropLast_subset L hx), fun x hx => by
    match L, hx with
    | a :: b :: l, hx => exact h.low x (by simpa using hx)⟩
theorem Ord.push {L : List Th} {i : Nat} (h : Ord L i) (x : Th) (hl : L.length < 16) (hx : x.more.length ≤ i) (hk : L = [] → x.k ≠ 6) : Ord (L ++ [x]) i :=
  ⟨by simp; omega, fun y hy => by
    rcases List.mem_append.1 hy with hy | hy
    · exact h.more y hy
    · simp at hy; subst hy; exact hx, fun y hy => by
    match L, hy with
    | [], hy => simp at hy; subst hy; exact hk rfl
    | a :: l, hy => exact h.low y (by simpa using hy)⟩
theorem Ord.set {L : List Th} {i : Nat} (h : Ord L i) (j : Nat) (y : Int) (hj : j < L.length) : Ord (L.set j ((L.getD j th0).plus y)) (i + 1) := by
  have hg : L.getD j th0 = L[j] := by rw [List.getD_eq_getElem?_getD, List.getElem?_eq_getElem hj]; rfl
  refine ⟨by rw [List.length_set]; exact h.len, fun x hx => ?_, fun x hx => ?_⟩
  · rcases List.mem_or_eq_of_mem_set hx with hx | hx
    · have := h.more x hx; omega
    · rw [hx, hg]
      have := h.more L[j] (List.getElem_mem hj)
      simp [Th.plus]; omega
  · match L, hj, hx with
    | a :: l, hj, hx =>
      match j with
      | 0 =>
        simp at hx
        subst hx
        exact h.low a rfl
      | j + 1 => exact h.low x (by simpa using hx)
theorem doFrom_lt (L : List Th) (n j : Nat) (h : doFrom L n = some j) : j < n := by
  induction n with
  | zero => cases h
  | succ n ih =>
    rw [doFrom] at h
    split at h
    · injection h with h; omega
    · have := ih h; omega
theorem topT_mem (L : List Th) (h : L ≠ []) : topT L ∈ L := by
  unfold topT
  rw [List.getLastD_eq_getLast?, List.getLast?_eq_some_getLast h]
  exact List.getLast_mem h
theorem Ord.step {L : List Th} {i : Nat} (h : Ord L i) (r : Nat) (here : Int) : Ord (step L r here).L (i + 1) := by
  have h1 := h.mono (Nat.le_add_right i 1)
  have hne : wantK r ≠ 0 → ¬(wantK r ≠ 0 ∧ (topT L).k ≠ wantK r) → L ≠ [] := by
    rintro h0 h2 rfl
    exact h2 ⟨h0, fun e => h0 e.symm⟩
  unfold Go.Proofs.Ytmfffaocmboelaa.step
  split
  · exact h1
  rename_i h17
  split
  · exact h1
  rename_i hw
  have hput : ∀ (k : Nat) (a t : Int), k ≠ 6 → L ≠ [] → Ord (L.dropLast ++ [⟨k, a, t, []⟩]) (i + 1) := fun k a t hk hL =>
    h1.drop.push _ (by have := h.len; have := List.length_pos_iff.2 hL; rw [List.length_dropLast]; omega) (Nat.zero_le _) (fun _ => hk)
  have hpu : ∀ x : Th, x.more.length ≤ i + 1 → (L = [] → x.k ≠ 6) → ¬ L.length = 16 → Ord (L ++ [x]) (i + 1) := fun x hx hk hl => h1.push x (by have := h.len; omega) hx hk
  match r with
  | 0 => simp only [eff]; split; exact h1; rename_i hl; exact hpu _ (Nat.zero_le _) (fun _ => by simp) hl
  | 1 => exact hput 1 here 0 (by decide) (hne (by decide) hw)
  | 2 => exact h1.drop
  | 3 => simp only [eff]; split; exact h1; rename_i hl; exact hpu _ (Nat.zero_le _) (fun _ => by simp) hl
  | 4 => exact h1.drop
  | 5 => exact h1.drop
  | 6 => exact hput 3 _ here (by decide) (hne (by decide) hw)
  | 7 => exact h1.drop
  | 8 => simp only [eff]; split; exact h1; rename_i hl; exact hpu _ (Nat.zero_le _) (fun _ => by simp) hl
  | 9 => simp only [eff]; split; exact h1; rename_i hl; exact hpu _ (by simp) (fun _ => by simp) hl
  | 10 => exact h1.drop
  | 11 => exact h1.drop
  | 12 =>
    simp only [eff]
    cases hd : doFrom L L.length with
    | none => exact h1
    | some j => exact h.set j _ (doFrom_lt _ _ _ hd)
  | 13 => simp only [eff]; split; exact h1; rename_i hl; exact hpu _ (Nat.zero_le _) (fun _ => by simp) hl
  | 14 => simp only [eff]; split; exact h1; rename_i hl; exact hpu _ (Nat.zero_le _) (fun e => absurd e (hne (by decide) hw)) hl
  | 15 =>
    simp only [eff]
    refine (h.set (L.length - 2) here ?_).drop
    have hL := hne (by decide) hw
    have := List.length_pos_iff.2 hL
    omega
  | 16 => exact h1.drop
  | k + 17 => exact absurd (Nat.le_add_left 17 k) h17
section
variable {w w' : World} {F : Nat} {own : Nat → Prop} {v : Value} {X : List (Th × Value)}
theorem fl_ord {i : Nat} (hb : Bk w F 57 #[v]) (hr : Rws w own v X) (ho : ¬ own F) (hold : ∀ k, own k → k < w.heap.size) (h : Ord (X.map Prod.fst) i) (hi : i ≤ 50000) : Fl w F own v X :=
  ⟨hb, hr, ho, hold, by have := h.len; simpa using this, fun x hx => Nat.le_trans (h.more x.1 (List.mem_map_of_mem hx)) hi, fun x hx => h.low x.1 (by rw [List.head?_map, hx]; rfl)⟩
end
end Go.Proofs.Ytmfffaocmboelaa
