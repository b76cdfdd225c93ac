import Derived.Test.YtbhgjjicmbbjaaaDoorTrA
namespace Go.Proofs.YtbhgjjicmbbjaaaDoor
open Go
set_option linter.unusedVariables false
set_option linter.unusedSimpArgs false
/-! chapter 17, plain: lines -/
structure Pu where
  out : ByteArray
  fault : Int
  fuel : Int
structure Pr where
  points : Int
  said : Bool
  fault : Int
  fuel : Int
  log : ByteArray
def rightP (f fuel : Int) (s : ByteArray) : Bool := decide (wordL f ≠ []) && decide (0 ≤ fuel) && decide (fuel ≤ 1000000) && decide (s.size ≤ 65536)
def puL (x : Pu) : List UInt8 := wordL x.fault ++ [32] ++ Lib.itoa x.fuel ++ [32] ++ quoteL x.out.data.toList
def puOk (x : Pu) : Bool := rightP x.fault x.fuel x.out
def ptL (x : Pr) : List UInt8 := if x.said then Lib.itoa x.points else [45]
def prL (x : Pr) : List UInt8 := wordL x.fault ++ [32] ++ Lib.itoa x.fuel ++ [32] ++ ptL x ++ [32] ++ quoteL x.log.data.toList
def prOk (x : Pr) : Bool := rightP x.fault x.fuel x.log && decide (0 ≤ x.points) && decide (x.points ≤ 100) && (x.said || decide (x.points = 0))
theorem rightP_iff {f fuel : Int} {s : ByteArray} : rightP f fuel s = true ↔ (0 ≤ f ∧ f < 22) ∧ 0 ≤ fuel ∧ fuel ≤ 1000000 ∧ s.size ≤ 65536 := by
  unfold rightP
  simp only [Bool.and_eq_true, decide_eq_true_eq, and_assoc]
  rw [wordL_some, and_assoc]
theorem prOk_iff {x : Pr} : prOk x = true ↔ ((0 ≤ x.fault ∧ x.fault < 22) ∧ 0 ≤ x.fuel ∧ x.fuel ≤ 1000000 ∧ x.log.size ≤ 65536) ∧ 0 ≤ x.points ∧ x.points ≤ 100 ∧ (x.said = true ∨ x.points = 0) := by
  unfold prOk
  simp only [Bool.and_eq_true, Bool.or_eq_true, decide_eq_true_eq, and_assoc]
  rw [rightP_iff]
  simp only [and_assoc]
/-! until a byte -/
def untl (c : UInt8) : List UInt8 → List UInt8 × List UInt8 × Bool
  | [] => ([], [], false)
  | b :: l => if b = c then ([], l, true) else (b :: (untl c l).1, (untl c l).2.1, (untl c l).2.2)
theorem untl_app (c : UInt8) : ∀ (a b : List UInt8), c ∉ a → untl c (a ++ c :: b) = (a, b, true)
  | [], b, _ => by simp [untl]
  | x :: a, b, h => by
    have h1 : x ≠ c := fun e => h (by simp [e])
    have h2 : c ∉ a := fun e => h (by simp [e])
    rw [List.cons_append, untl, if_neg h1, untl_app c a b h2]
theorem untl_none (c : UInt8) : ∀ (a : List UInt8), c ∉ a → untl c a = (a, [], false)
  | [], _ => rfl
  | x :: a, h => by
    have h1 : x ≠ c := fun e => h (by simp [e])
    have h2 : c ∉ a := fun e => h (by simp [e])
    rw [untl, if_neg h1, untl_none c a h2]
theorem untl_spec (c : UInt8) : ∀ (l : List UInt8), c ∉ (untl c l).1 ∧ (((untl c l).2.2 = true ∧ l = (untl c l).1 ++ c :: (untl c l).2.1) ∨ ((untl c l).2.2 = false ∧ l = (untl c l).1 ∧ (untl c l).2.1 = []))
  | [] => ⟨by simp [untl], .inr ⟨rfl, rfl, rfl⟩⟩
  | b :: l => by
    obtain ⟨h1, h2⟩ := untl_spec c l
    rw [untl]
    by_cases h : b = c
    · rw [if_pos h]
      exact ⟨by simp, .inl ⟨rfl, by simp [h]⟩⟩
    · rw [if_neg h]
      refine ⟨by simp only [List.mem_cons, not_or]; exact ⟨fun e => h e.symm, h1⟩, ?_⟩
      rcases h2 with ⟨h3, h4⟩ | ⟨h3, h4, h5⟩
      · exact .inl ⟨h3, by rw [List.cons_append, ← h4]⟩
      · exact .inr ⟨h3, by rw [← h4], h5⟩
theorem untl_len (c : UInt8) (l : List UInt8) : (untl c l).1.length ≤ l.length ∧ (untl c l).2.1.length ≤ l.length := by
  rcases (untl_spec c l).2 with ⟨_, h⟩ | ⟨_, h, h2⟩
  · have := congrArg List.length h
    rw [List.length_append, List.length_cons] at this
    omega
  · rw [h2]
    have := congrArg List.length h
    simp
    omega
/-! lines -/
def lineL (i : Nat) (b : List UInt8) : List UInt8 := Lib.itoa (i : Int) ++ [32] ++ b ++ [10]
def linesL {X : Type} (bd : X → List UInt8) : Nat → List X → List UInt8
  | _, [] => []
  | i, x :: l => lineL i (bd x) ++ linesL bd (i + 1) l
theorem linesL_app {X : Type} (bd : X → List UInt8) : ∀ (i : Nat) (l m : List X), linesL bd i (l ++ m) = linesL bd i l ++ linesL bd (i + l.length) m
  | i, [], m => by simp [linesL]
  | i, x :: l, m => by
    rw [List.cons_append, linesL, linesL_app bd (i + 1) l m, linesL, List.append_assoc, List.length_cons, show i + 1 + l.length = i + (l.length + 1) by omega]
theorem linesL_push {X : Type} (bd : X → List UInt8) (i : Nat) (l : List X) (x : X) : linesL bd i (l ++ [x]) = linesL bd i l ++ lineL (i + l.length) (bd x) := by
  rw [linesL_app]; simp [linesL]
/-- what is written: the text, and the error -/
def writeT {X : Type} (ok : X → Bool) (bd : X → List UInt8) (l : List X) : List UInt8 := if l.length ≤ 32 ∧ l.all ok = true then linesL bd 1 l else []
def writeE {X : Type} (ok : X → Bool) (l : List X) : Int := if 32 < l.length then 3 else if l.all ok = true then 0 else 1
/-! reading -/
inductive Rd (X : Type) where
  | got (l : List X)
  | bad (e : Int) (k : Nat)
def Rd.join {X : Type} (d : List X) : Rd X → Rd X
  | .got l => .got (d ++ l)
  | .bad e k => .bad e k
theorem Rd.join_join {X : Type} (d e : List X) (r : Rd X) : Rd.join d (Rd.join e r) = Rd.join (d ++ e) r := by cases r <;> simp [Rd.join]
section
variable {X : Type} (ok : X → Bool) (bd : X → List UInt8)
open Classical in
noncomputable def theX (i : Nat) (L : List UInt8) : Option X := if h : ∃ x, ok x = true ∧ L = lineL i (bd x) then some h.choose else none
def line1 (s : List UInt8) : List UInt8 := (untl 10 s).1 ++ (if (untl 10 s).2.2 then [10] else [])
def rest1 (s : List UInt8) : List UInt8 := (untl 10 s).2.1
noncomputable def readN : Nat → Nat → List UInt8 → Rd X
  | 0, i, s => if s = [] then .got [] else .bad 3 i
  | n + 1, i, s => if s = [] then .got [] else match theX ok bd i (line1 s) with
    | none => .bad 4 i
    | some x => Rd.join [x] (readN n (i + 1) (rest1 s))
noncomputable def readS (s : List UInt8) : Rd X := readN ok bd 32 1 s
variable {ok bd}
theorem line_rest (s : List UInt8) : s = line1 s ++ rest1 s := by
  unfold line1 rest1
  rcases (untl_spec 10 s).2 with ⟨h1, h2⟩ | ⟨h1, h2, h3⟩
  · rw [h1]
    simpa using h2
  · rw [h1, h3]
    simpa using h2
theorem theX_spec {i : Nat} {L : List UInt8} {x : X} (h : theX ok bd i L = some x) : ok x = true ∧ L = lineL i (bd x) := by
  unfold theX at h
  split at h
  · rename_i hx
    injection h with h
    rw [← h]
    exact hx.choose_spec
  · cases h
theorem theX_none {i : Nat} {L : List UInt8} (h : theX ok bd i L = none) : ∀ x, ok x = true → L ≠ lineL i (bd x) := by
  intro x hx e
  unfold theX at h
  rw [dif_pos ⟨x, hx, e⟩] at h
  cases h
/-- a kind of tests that can be told apart when written -/
structure Kind (ok : X → Bool) (bd : X → List UInt8) : Prop where
  inj : ∀ x y, ok x = true → ok y = true → bd x = bd y → x = y
  no10 : ∀ x, (10 : UInt8) ∉ bd x
theorem lineL_inj {i : Nat} {a b : List UInt8} (h : lineL i a = lineL i b) : a = b := by
  unfold lineL at h
  exact List.append_cancel_left (List.append_cancel_right h)
theorem theX_yes (K : Kind ok bd) {i : Nat} {x : X} (h : ok x = true) : theX ok bd i (lineL i (bd x)) = some x := by
  cases hx : theX ok bd i (lineL i (bd x)) with
  | none => exact absurd rfl (theX_none hx x h)
  | some y =>
    have hy := theX_spec hx
    rw [K.inj y x hy.1 h (lineL_inj hy.2).symm]
theorem no10_itoa (n : Int) : (10 : UInt8) ∉ Lib.itoa n := fun h => by have := itoa_bytes n 10 h; revert this; decide
theorem no32_itoa (n : Int) : (32 : UInt8) ∉ Lib.itoa n := fun h => by have := itoa_bytes n 32 h; revert this; decide
theorem no10_head (K : Kind ok bd) (i : Nat) (x : X) : (10 : UInt8) ∉ Lib.itoa (i : Int) ++ [32] ++ bd x := by
  simp only [List.mem_append, not_or]
  exact ⟨⟨no10_itoa _, by decide⟩, K.no10 x⟩
theorem line1_line (K : Kind ok bd) (i : Nat) (x : X) (r : List UInt8) : line1 (lineL i (bd x) ++ r) = lineL i (bd x) ∧ rest1 (lineL i (bd x) ++ r) = r := by
  have h : untl 10 (lineL i (bd x) ++ r) = (Lib.itoa (i : Int) ++ [32] ++ bd x, r, true) := by
    unfold lineL
    rw [List.append_assoc _ [10] r]
    exact untl_app 10 _ _ (no10_head K i x)
  unfold line1 rest1
  rw [h]
  exact ⟨rfl, rfl⟩
theorem lineL_ne (i : Nat) (b : List UInt8) : lineL i b ≠ [] := by unfold lineL; simp
/-- what is written is read -/
theorem readN_lines (K : Kind ok bd) : ∀ (l : List X) (n i : Nat), l.length ≤ n → l.all ok = true → readN ok bd n i (linesL bd i l) = .got l
  | [], n, i, _, _ => by cases n <;> rfl
  | x :: l, 0, i, h, _ => by simp at h
  | x :: l, n + 1, i, h, ho => by
    rw [List.all_cons, Bool.and_eq_true] at ho
    rw [linesL, readN, if_neg (by rw [List.append_eq_nil_iff]; exact fun e => lineL_ne _ _ e.1), (line1_line K i x _).1, (line1_line K i x _).2, theX_yes K ho.1]
    simp only
    rw [readN_lines K l n (i + 1) (by simpa using h) ho.2]
    rfl
/-- what was read is written so -/
theorem readN_got : ∀ (n i : Nat) (s : List UInt8) (l : List X), readN ok bd n i s = .got l → s = linesL bd i l ∧ l.all ok = true ∧ l.length ≤ n
  | 0, i, s, l, h => by
    unfold readN at h
    split at h
    · injection h with h; subst h; rename_i hs; exact ⟨by rw [hs]; rfl, rfl, Nat.le_refl _⟩
    · cases h
  | n + 1, i, s, l, h => by
    unfold readN at h
    split at h
    · injection h with h; subst h; rename_i hs; exact ⟨by rw [hs]; rfl, rfl, Nat.zero_le _⟩
    · split at h
      · cases h
      · rename_i x hx
        cases hr : readN ok bd n (i + 1) (rest1 s) with
        | bad e k => rw [hr] at h; cases h
        | got m =>
          rw [hr] at h
          injection h with h
          subst h
          have h1 := readN_got n (i + 1) (rest1 s) m hr
          have h2 := theX_spec hx
          refine ⟨?_, ?_, ?_⟩
          · rw [List.singleton_append, linesL, ← h1.1, ← h2.2]; exact line_rest s
          · rw [List.singleton_append, List.all_cons, h2.1, h1.2.1]; rfl
          · simp; exact h1.2.2
/-- what is refused is refused at a line that it has; all ahead of that is right -/
theorem readN_bad : ∀ (n i : Nat) (s : List UInt8) (e : Int) (k : Nat), readN ok bd n i s = .bad e k → (e = 3 ∨ e = 4) ∧ ∃ (l : List X) (r : List UInt8), l.length + i = k ∧ l.length ≤ n ∧ s = linesL bd i l ++ r ∧ r ≠ [] ∧ l.all ok = true
  | 0, i, s, e, k, h => by
    unfold readN at h
    split at h
    · cases h
    · rename_i hs
      injection h with h1 h2
      exact ⟨.inl h1.symm, [], s, by simpa using h2, Nat.le_refl _, rfl, hs, rfl⟩
  | n + 1, i, s, e, k, h => by
    unfold readN at h
    split at h
    · cases h
    · rename_i hs
      split at h
      · injection h with h1 h2
        exact ⟨.inr h1.symm, [], s, by simpa using h2, Nat.zero_le _, rfl, hs, rfl⟩
      · rename_i x hx
        cases hr : readN ok bd n (i + 1) (rest1 s) with
        | got m => rw [hr] at h; cases h
        | bad e2 k2 =>
          rw [hr] at h
          injection h with h1 h2
          subst h1 h2
          obtain ⟨h3, l, r, h4, h5, h6, h7, h8⟩ := readN_bad n (i + 1) (rest1 s) e2 k2 hr
          have h9 := theX_spec hx
          refine ⟨h3, x :: l, r, by simp; omega, by simp; exact h5, ?_, h7, by rw [List.all_cons, h9.1, h8]; rfl⟩
          rw [linesL, List.append_assoc, ← h6, ← h9.2]
          exact line_rest s
end
/-! both kinds -/
theorem no10_word (f : Int) : (10 : UInt8) ∉ wordL f := fun h => by have := wordL_bytes f 10 h; revert this; decide
theorem no32_word (f : Int) : (32 : UInt8) ∉ wordL f := fun h => by have := wordL_bytes f 32 h; revert this; decide
theorem no10_quote (l : List UInt8) : (10 : UInt8) ∉ quoteL l := fun h => by have := quoteL_no10 l 10 h; revert this; decide
theorem no10_pt (x : Pr) : (10 : UInt8) ∉ ptL x := by unfold ptL; split; exact no10_itoa _; decide
theorem no32_pt (x : Pr) : (32 : UInt8) ∉ ptL x := by unfold ptL; split; exact no32_itoa _; decide
theorem puL_untl (x : Pu) : untl 32 (puL x) = (wordL x.fault, Lib.itoa x.fuel ++ [32] ++ quoteL x.out.data.toList, true) := by
  unfold puL
  rw [List.append_assoc, List.append_assoc, List.append_assoc]
  rw [show wordL x.fault ++ ([32] ++ (Lib.itoa x.fuel ++ ([32] ++ quoteL x.out.data.toList))) = wordL x.fault ++ 32 :: (Lib.itoa x.fuel ++ [32] ++ quoteL x.out.data.toList) by simp]
  exact untl_app 32 _ _ (no32_word _)
theorem puL_untl2 (x : Pu) : untl 32 (Lib.itoa x.fuel ++ [32] ++ quoteL x.out.data.toList) = (Lib.itoa x.fuel, quoteL x.out.data.toList, true) := by
  rw [List.append_assoc]
  exact untl_app 32 _ _ (no32_itoa _)
theorem prL_untl (x : Pr) : untl 32 (prL x) = (wordL x.fault, Lib.itoa x.fuel ++ [32] ++ (ptL x ++ [32] ++ quoteL x.log.data.toList), true) := by
  have h : prL x = wordL x.fault ++ 32 :: (Lib.itoa x.fuel ++ [32] ++ (ptL x ++ [32] ++ quoteL x.log.data.toList)) := by unfold prL; simp
  rw [h]
  exact untl_app 32 _ _ (no32_word _)
theorem prL_untl2 (x : Pr) : untl 32 (Lib.itoa x.fuel ++ [32] ++ (ptL x ++ [32] ++ quoteL x.log.data.toList)) = (Lib.itoa x.fuel, ptL x ++ [32] ++ quoteL x.log.data.toList, true) := by
  rw [List.append_assoc]
  exact untl_app 32 _ _ (no32_itoa _)
theorem prL_untl3 (x : Pr) : untl 32 (ptL x ++ [32] ++ quoteL x.log.data.toList) = (ptL x, quoteL x.log.data.toList, true) := by
  rw [List.append_assoc]
  exact untl_app 32 _ _ (no32_pt _)
theorem ba_ext {a b : ByteArray} (h : a.data.toList = b.data.toList) : a = b := by
  cases a; cases b
  congr 1
  exact Array.toList_inj.1 h
theorem pt_minus {x : Pr} (h : 0 ≤ x.points) : ptL x = [45] ↔ x.said = false := by
  unfold ptL
  cases hs : x.said
  · simp
  · simp only [if_true, reduceCtorEq, iff_false]
    intro e
    rw [itoa_pos h] at e
    have := dec_bytes x.points.toNat 45 (by rw [e]; simp)
    revert this; decide
theorem kind_pu : Kind puOk puL where
  inj := by
    intro x y hx hy h
    have ux := puL_untl x
    rw [h, puL_untl y] at ux
    injection ux with h1 h2
    injection h2 with h2 _
    have vx := puL_untl2 x
    rw [← h2, puL_untl2 y] at vx
    injection vx with h3 h4
    injection h4 with h4 _
    have ox := rightP_iff.1 hx
    have oy := rightP_iff.1 hy
    have e1 := wordL_inj h1 oy.1 ox.1
    have e2 := itoa_inj oy.2.1 ox.2.1 h3
    have e3 := ba_ext (quoteL_inj h4)
    cases x; cases y
    simp only at e1 e2 e3
    rw [e1, e2, e3]
  no10 := by
    intro x
    unfold puL
    simp only [List.mem_append, not_or]
    exact ⟨⟨⟨⟨no10_word _, by decide⟩, no10_itoa _⟩, by decide⟩, no10_quote _⟩
theorem kind_pr : Kind prOk prL where
  inj := by
    intro x y hx hy h
    have ux := prL_untl x
    rw [h, prL_untl y] at ux
    injection ux with h1 h2
    injection h2 with h2 _
    have vx := prL_untl2 x
    rw [← h2, prL_untl2 y] at vx
    injection vx with h3 h4
    injection h4 with h4 _
    have wx := prL_untl3 x
    rw [← h4, prL_untl3 y] at wx
    injection wx with h5 h6
    injection h6 with h6 _
    have ox := prOk_iff.1 hx
    have oy := prOk_iff.1 hy
    have e1 := wordL_inj h1 oy.1.1 ox.1.1
    have e2 := itoa_inj oy.1.2.1 ox.1.2.1 h3
    have e3 := ba_ext (quoteL_inj h6)
    have hs : x.said = y.said := by
      have a1 := pt_minus (x := x) ox.2.1
      have a2 := pt_minus (x := y) oy.2.1
      rw [h5, a1] at a2
      cases h1 : x.said <;> cases h2 : y.said
      · rfl
      · have := a2.1 h1; rw [h2] at this; cases this
      · have := a2.2 h2; rw [h1] at this; cases this
      · rfl
    have hp : x.points = y.points := by
      unfold ptL at h5
      rw [hs] at h5
      cases hy2 : y.said
      · rcases ox.2.2.2 with h | h
        · rw [hs, hy2] at h; cases h
        · rcases oy.2.2.2 with h' | h'
          · rw [hy2] at h'; cases h'
          · rw [h, h']
      · rw [hy2] at h5
        simp only [if_true] at h5
        exact (itoa_inj oy.2.1 ox.2.1 h5).symm
    cases x; cases y
    simp only at e1 e2 e3 hs hp
    rw [e1, e2, e3, hs, hp]
  no10 := by
    intro x
    unfold prL
    simp only [List.mem_append, not_or]
    exact ⟨⟨⟨⟨⟨⟨no10_word _, by decide⟩, no10_itoa _⟩, by decide⟩, no10_pt _⟩, by decide⟩, no10_quote _⟩
end Go.Proofs.YtbhgjjicmbbjaaaDoor
