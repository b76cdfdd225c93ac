import Derived.Test.YtbhgjjicmbbjaaaDoorTrY
namespace Go.Proofs.YtbhgjjicmbbjaaaDoor
open Go.RowKit
set_option linter.unusedVariables false
set_option linter.unusedSimpArgs false
/-! chapter 17, plain: what the document's Read answers; lines -/
/-- a word's number, as far as it has been looked at -/
def FQ (W : ByteArray) (k : Nat) (F : Int) : Prop := (-1 ≤ F ∧ F < k) ∧ ∀ y : Int, 0 ≤ y → y < k → W = wordB y → F = y
theorem FQ.zero (W : ByteArray) : FQ W 0 (-1) := ⟨by omega, fun y h1 h2 => by omega⟩
theorem FQ.no {W : ByteArray} {k : Nat} {F : Int} (h : FQ W k F) (hn : wordB (k : Int) ≠ W) : FQ W (k + 1) F :=
  ⟨by have := h.1; omega, fun y h1 h2 e => by
    by_cases hy : y = k
    · exact absurd (by rw [e, hy]) hn
    · exact h.2 y h1 (by omega) e⟩
theorem FQ.yes {W : ByteArray} {k : Nat} (hk : k < 22) (hn : wordB (k : Int) = W) : FQ W (k + 1) (k : Int) :=
  ⟨by omega, fun y h1 h2 e => by
    have e2 : wordL (k : Int) = wordL y := by
      have := congrArg (fun b : ByteArray => b.data.toList) (hn.trans e)
      unfold wordB at this
      simpa using this
    exact wordL_inj e2 (by omega) (by omega)⟩
def LnPu (s : ByteArray) (f u : Int) (t : ByteArray) : Prop := (-1 ≤ f ∧ f < 22) ∧ inI u ∧ t.size ≤ s.size ∧ ∀ (i : Nat) (y : Pu), puOk y = true → s.data.toList = Lib.itoa (i : Int) ++ [32] ++ puL y → f = y.fault ∧ u = y.fuel ∧ t = y.out
def LnPr (s : ByteArray) (f u pt : Int) (sd : Bool) (t : ByteArray) : Prop := (-1 ≤ f ∧ f < 22) ∧ inI u ∧ inI pt ∧ t.size ≤ s.size ∧ ∀ (i : Nat) (y : Pr), prOk y = true → s.data.toList = Lib.itoa (i : Int) ++ [32] ++ prL y → f = y.fault ∧ u = y.fuel ∧ pt = y.points ∧ sd = y.said ∧ t = y.log
theorem word_is {A : ByteArray} {f : Int} (h : A.data.toList = wordL f) : A = wordB f := ba_ext (by rw [h]; unfold wordB; simp)
theorem numP_is {A : ByteArray} {v n : Int} (h : NumP A v) (h0 : 0 ≤ n) (h1 : n ≤ 1000000) (e : A.data.toList = Lib.itoa n) : v = n := by
  have := h.2.2 n.toNat (by omega) (by rw [e, itoa_pos h0])
  omega
theorem numP_in {A : ByteArray} {v : Int} (h : NumP A v) : inI v := by have h1 := h.1; have h2 := h.2.1; unfold inI; omega
theorem head_untl (i : Nat) (b : List UInt8) : untl 32 (Lib.itoa (i : Int) ++ [32] ++ b) = (Lib.itoa (i : Int), b, true) := by
  rw [List.append_assoc]
  exact untl_app 32 _ _ (no32_itoa _)
theorem lnPu_of {s : ByteArray} {f u : Int} {t : ByteArray} (hF : FQ (untB 32 (untB 32 s).2.1).1 22 f) (hN : NumP (untB 32 (untB 32 (untB 32 s).2.1).2.1).1 u)
    (ht : t.size ≤ (untB 32 (untB 32 (untB 32 s).2.1).2.1).2.1.size ∧ ∀ l, (untB 32 (untB 32 (untB 32 s).2.1).2.1).2.1.data.toList = quoteL l → t.data.toList = l) : LnPu s f u t := by
  have s1 := (untB_size 32 s).2
  have s2 := (untB_size 32 (untB 32 s).2.1).2
  have s3 := (untB_size 32 (untB 32 (untB 32 s).2.1).2.1).2
  refine ⟨by have := hF.1; omega, numP_in hN, by omega, fun i y hy e => ?_⟩
  have oy := rightP_iff.1 hy
  have e1 := untB_list 32 s
  rw [e, head_untl] at e1
  have e2 := untB_list 32 (untB 32 s).2.1
  rw [e1.2.1, puL_untl y] at e2
  have e3 := untB_list 32 (untB 32 (untB 32 s).2.1).2.1
  rw [e2.2.1, puL_untl2 y] at e3
  exact ⟨hF.2 y.fault oy.1.1 (by omega) (word_is e2.1), numP_is hN oy.2.1 oy.2.2.1 e3.1, ba_ext (ht.2 _ e3.2.1)⟩
theorem lnPr_of {s : ByteArray} {f u pt : Int} {sd : Bool} {t : ByteArray} (hF : FQ (untB 32 (untB 32 s).2.1).1 22 f) (hN : NumP (untB 32 (untB 32 (untB 32 s).2.1).2.1).1 u)
    (hp : ((untB 32 (untB 32 (untB 32 (untB 32 s).2.1).2.1).2.1).1.data.toList = [45] ∧ sd = false ∧ pt = 0) ∨ ((untB 32 (untB 32 (untB 32 (untB 32 s).2.1).2.1).2.1).1.data.toList ≠ [45] ∧ sd = true ∧ NumP (untB 32 (untB 32 (untB 32 (untB 32 s).2.1).2.1).2.1).1 pt))
    (ht : t.size ≤ (untB 32 (untB 32 (untB 32 (untB 32 s).2.1).2.1).2.1).2.1.size ∧ ∀ l, (untB 32 (untB 32 (untB 32 (untB 32 s).2.1).2.1).2.1).2.1.data.toList = quoteL l → t.data.toList = l) : LnPr s f u pt sd t := by
  have s1 := (untB_size 32 s).2
  have s2 := (untB_size 32 (untB 32 s).2.1).2
  have s3 := (untB_size 32 (untB 32 (untB 32 s).2.1).2.1).2
  have s4 := (untB_size 32 (untB 32 (untB 32 (untB 32 s).2.1).2.1).2.1).2
  refine ⟨by have := hF.1; omega, numP_in hN, ?_, by omega, fun i y hy e => ?_⟩
  · rcases hp with ⟨_, _, rfl⟩ | ⟨_, _, h⟩
    · unfold inI; omega
    · exact numP_in h
  have oy := prOk_iff.1 hy
  have e1 := untB_list 32 s
  rw [e, head_untl] at e1
  have e2 := untB_list 32 (untB 32 s).2.1
  rw [e1.2.1, prL_untl y] at e2
  have e3 := untB_list 32 (untB 32 (untB 32 s).2.1).2.1
  rw [e2.2.1, prL_untl2 y] at e3
  have e4 := untB_list 32 (untB 32 (untB 32 (untB 32 s).2.1).2.1).2.1
  rw [e3.2.1, prL_untl3 y] at e4
  have hps : pt = y.points ∧ sd = y.said := by
    have hm := pt_minus oy.2.1
    rcases hp with ⟨h1, rfl, rfl⟩ | ⟨h1, rfl, h2⟩
    · rw [e4.1] at h1
      have hs := hm.1 h1
      rcases oy.2.2.2 with h | h
      · rw [hs] at h; cases h
      · exact ⟨h.symm, hs.symm⟩
    · rw [e4.1] at h1
      have hs : y.said = true := by
        cases h : y.said
        · exact absurd (hm.2 h) h1
        · rfl
      have e5 := e4.1
      unfold ptL at e5
      rw [hs] at e5
      exact ⟨numP_is h2 oy.2.1 (by omega) e5, hs.symm⟩
  exact ⟨hF.2 y.fault oy.1.1.1 (by omega) (word_is e2.1), numP_is hN oy.1.2.1 oy.1.2.2.1 e3.1, hps.1, hps.2, ba_ext (ht.2 _ e4.2.1)⟩
/-! lines -/
def LnS : List UInt8 → List (List UInt8) → Prop
  | s, [] => s = []
  | s, x :: L => s ≠ [] ∧ x = line1 s ∧ LnS (rest1 s) L
theorem rest1_len (s : List UInt8) (h : s ≠ []) : (line1 s).length + (rest1 s).length = s.length ∧ line1 s ≠ [] := by
  have e := line_rest s
  have h1 := congrArg List.length e
  rw [List.length_append] at h1
  refine ⟨h1.symm, fun h2 => ?_⟩
  unfold line1 at h2
  rw [List.append_eq_nil_iff] at h2
  rcases (untl_spec 10 s).2 with ⟨h3, h4⟩ | ⟨h3, h4, h5⟩
  · rw [h3] at h2; cases h2.2
  · rw [h4] at h; exact h h2.1
theorem LnS.mem : ∀ {L : List (List UInt8)} {s : List UInt8}, LnS s L → ∀ x ∈ L, x.length ≤ s.length ∧ x ≠ []
  | [], s, _, x, hx => by cases hx
  | y :: L, s, ⟨h1, h2, h3⟩, x, hx => by
    have hr := rest1_len s h1
    rcases List.mem_cons.1 hx with rfl | hx
    · rw [h2]; exact ⟨by omega, hr.2⟩
    · have := LnS.mem h3 x hx
      exact ⟨by omega, this.2⟩
theorem LnS.len : ∀ {L : List (List UInt8)} {s : List UInt8}, LnS s L → L.length ≤ s.length
  | [], s, _ => Nat.zero_le _
  | y :: L, s, ⟨h1, h2, h3⟩ => by
    have hr := rest1_len s h1
    have := LnS.len h3
    have : 0 < (line1 s).length := List.length_pos_iff.2 hr.2
    rw [List.length_cons]
    omega
/-- how far lines has come -/
def LnQ (s : List UInt8) (from_ i : Nat) (L : List (List UInt8)) : Prop := (∀ j, from_ ≤ j → j < i → s[j]? ≠ some 10) ∧ ∀ L2, LnS (s.drop from_) L2 → LnS s (L ++ L2)
theorem LnQ.zero (s : List UInt8) : LnQ s 0 0 [] := ⟨fun j h1 h2 => absurd h2 (Nat.not_lt_zero _), fun L2 h => by simpa using h⟩
theorem LnQ.no {s : List UInt8} {a i : Nat} {L : List (List UInt8)} (h : LnQ s a i L) (hc : s[i]? ≠ some 10) : LnQ s a (i + 1) L :=
  ⟨fun j h1 h2 => by
    by_cases hj : j = i
    · rw [hj]; exact hc
    · exact h.1 j h1 (by omega), h.2⟩
theorem LnQ.yes {s : List UInt8} {a i : Nat} {L : List (List UInt8)} (h : LnQ s a i L) (ha : a ≤ i) (hc : s[i]? = some 10) : LnQ s (i + 1) (i + 1) (L ++ [(s.drop a).take (i + 1 - a)]) :=
  ⟨fun j h1 h2 => by omega, fun L2 h2 => by
    rw [List.append_assoc]
    apply h.2
    have hu : untl 10 (s.drop a) = ((s.drop a).take (i - a), (s.drop a).drop (i - a + 1), true) := by
      apply untl_at
      · rw [List.getElem?_drop, show a + (i - a) = i by omega]; exact hc
      · intro j hj
        rw [List.getElem?_drop]
        exact h.1 (a + j) (by omega) (by omega)
    have hg : (s.drop a)[i - a]? = some 10 := by rw [List.getElem?_drop, show a + (i - a) = i by omega]; exact hc
    refine ⟨fun e => ?_, ?_, ?_⟩
    · rw [e] at hg; cases hg
    · unfold line1
      rw [hu]
      show _ = (s.drop a).take (i - a) ++ [10]
      rw [show i + 1 - a = (i - a) + 1 by omega, List.take_add_one, hg]
      rfl
    · unfold rest1
      rw [hu]
      simp only
      rw [List.drop_drop, show a + (i - a + 1) = i + 1 by omega]
      exact h2⟩
theorem LnQ.end_ {s : List UInt8} {a : Nat} {L : List (List UInt8)} (h : LnQ s a s.length L) (ha : a < s.length) : LnS s (L ++ [s.drop a]) := by
  apply h.2
  have hu : untl 10 (s.drop a) = (s.drop a, [], false) := by
    apply untl_none
    intro hm
    obtain ⟨j, hj⟩ := List.getElem?_of_mem hm
    rw [List.getElem?_drop] at hj
    have := (List.getElem?_eq_some_iff.1 hj).1
    exact h.1 (a + j) (by omega) this hj
  refine ⟨fun e => ?_, ?_, ?_⟩
  · have := congrArg List.length e
    rw [List.length_drop] at this
    simp at this
    omega
  · unfold line1; rw [hu]; simp
  · unfold rest1; rw [hu]; rfl
theorem LnQ.full {s : List UInt8} {a i : Nat} {L : List (List UInt8)} (h : LnQ s a i L) (ha : s.length ≤ a) : LnS s L := by
  have := h.2 [] (by show s.drop a = []; exact List.drop_eq_nil_of_le ha)
  simpa using this
/-! a round of the reading -/
theorem round2 {X : Type} {ok : X → Bool} {bd : X → List UInt8} (K : Kind ok bd) {Xs : List X} {x : X} {n : Nat} {r li was t : List UInt8} {E : Int} (hn : Xs.length = n) (h32 : n < 32) (hall : Xs.all ok = true) (hw : was = linesL bd 1 Xs) (hli : li = line1 r) (ht : t = writeT ok bd (Xs ++ [x])) (hE : E = writeE ok (Xs ++ [x]))
    (hx : ∀ y, ok y = true → li = lineL (n + 1) (bd y) → x = y) :
    (E = 0 → t = was ++ li → theX ok bd (n + 1) (line1 r) = some x ∧ (Xs ++ [x]).all ok = true ∧ t = linesL bd 1 (Xs ++ [x])) ∧ (¬ (E = 0 ∧ t = was ++ li) → theX ok bd (n + 1) (line1 r) = none) := by
  have hlen : (Xs ++ [x]).length = n + 1 := by rw [List.length_append, hn]; rfl
  have hE2 : E = 0 ↔ ok x = true := by
    rw [hE]
    unfold writeE
    rw [if_neg (by rw [hlen]; omega), List.all_append, hall]
    cases h : ok x <;> simp [h]
  have hT2 : ok x = true → t = was ++ lineL (n + 1) (bd x) := fun h => by
    rw [ht]
    unfold writeT
    rw [if_pos ⟨by rw [hlen]; omega, by rw [List.all_append, hall]; simp [h]⟩, linesL_push, hn, hw, Nat.add_comm 1 n]
  constructor
  · intro h1 h2
    have ho := hE2.1 h1
    have e := hT2 ho
    rw [h2] at e
    have e2 := List.append_cancel_left e
    refine ⟨?_, by rw [List.all_append, hall]; simp [ho], ?_⟩
    · rw [← hli, e2]
      exact theX_yes K ho
    · rw [hT2 ho, linesL_push, hn, hw, Nat.add_comm 1 n]
  · intro hno
    cases hy : theX ok bd (n + 1) (line1 r) with
    | none => rfl
    | some y =>
      exfalso
      obtain ⟨y1, y2⟩ := theX_spec hy
      rw [← hli] at y2
      have := hx y y1 y2
      subst this
      exact hno ⟨hE2.2 y1, by rw [hT2 y1, y2]⟩
/-- the line without its end -/
theorem cut_end {li : ByteArray} {i : Nat} {b : List UInt8} (h : li.data.toList = lineL i b) : (li.extract 0 (li.size - 1)).data.toList = Lib.itoa (i : Int) ++ [32] ++ b := by
  rw [ext_list, List.drop_zero, h, list_size, h]
  unfold lineL
  rw [List.length_append, List.length_singleton, Nat.add_sub_cancel, Nat.sub_zero, List.take_left]
end Go.Proofs.YtbhgjjicmbbjaaaDoor
