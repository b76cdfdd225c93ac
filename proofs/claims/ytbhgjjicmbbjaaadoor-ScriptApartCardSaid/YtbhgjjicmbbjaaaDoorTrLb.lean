import Derived.Test.YtbhgjjicmbbjaaaDoorTrLa
namespace Go.Proofs.YtbhgjjicmbbjaaaDoor
open Go.RowKit
set_option linter.unusedVariables false
set_option linter.unusedSimpArgs false
/-! ScriptWords, ScriptTexts -/
set_option maxRecDepth 100000 in
theorem rpoints_any (A : Option Addr) (n c : Nat) (xs : List Pr) (w : World) (hn : xs.length = n) (hr : PrRow w A xs) (hcap : n ≤ 140737488355328) :
    Calls Tryd.prog 17 #[.slice A n c] w fun e w' => e = .returned (.tuple #[.int .i64 (ptsP xs).1, .int .i64 ((ptsP xs).2 : Int)]) ∧ w' = w := by
  have hfin : ptsP (xs.take n) = ptsP xs := by rw [List.take_of_length_le (by omega)]
  obtain ⟨P1, hP1⟩ : ∃ P, (ptsP xs).1 = P := ⟨_, rfl⟩
  obtain ⟨P2, hP2⟩ : ∃ P, (ptsP xs).2 = P := ⟨_, rfl⟩
  rw [hP1, hP2]
  have hcap' : (n : Int) ≤ 140737488355328 := by omega
  replace hP1 := Lib.hid hP1
  replace hP2 := Lib.hid hP2
  replace hr := Lib.hid hr
  replace hn := Lib.hid hn
  replace hfin := Lib.hid hfin
  go_enter Tryd.func17, Tryd.ntmps17
  go_wp2_with (fail)
  go_loop [4, 5, 6] (fun x4 x5 x10 => ∃ (k m : Nat) (s : Int), x4 = .int .i64 s ∧ x5 = .int .i64 m ∧ x10 = .int .i64 k ∧ k ≤ n ∧ m ≤ n ∧ Hid (ptsP (xs.take k) = (s, m) ∧ m ≤ k)) (fun _ _ x10 => n - (intOf x10).toNat)
  case atStart => exact ⟨0, 0, 0, rfl, rfl, rfl, Nat.zero_le _, Nat.zero_le _, Lib.hid ⟨rfl, Nat.le_refl _⟩⟩
  case round =>
    obtain ⟨k, m, s, rfl, rfl, rfl, hk0, hm0, hQ⟩ := hrel
    by_cases hk : k < n
    · have hk' : (k : Int) < (n : Int) := by omega
      have hm' : (m : Int) ≤ 140737488355328 := by omega
      obtain ⟨hp, hmk⟩ := hQ.out
      obtain ⟨x, hx⟩ : ∃ x, xs[k]? = some x := ⟨_, List.getElem?_eq_getElem (by rw [hn.out]; exact hk)⟩
      obtain ⟨b, off, rfl, hbl, c0, c1, c2, c3, c4⟩ := hr.out k x hx
      have htk : xs.take (k + 1) = xs.take k ++ [x] := by rw [List.take_add_one, hx]; rfl
      have hpp := ptsP_push (xs.take k) x
      rw [← htk, hp] at hpp
      obtain ⟨p, sd, f, fu, lg⟩ := x
      simp only at c0 c1 hpp
      replace hmk := Lib.hid hmk
      replace hm0 := Lib.hid hm0
      clear hQ hp hbl hx htk c2 c3 c4
      cases sd
      · replace hpp := Lib.hid hpp
        go_wp2_with (fail)
        exact ⟨⟨k + 1, m, s, rfl, rfl, rfl, by omega, by have := hm0.out; omega, Lib.hid ⟨by simpa using hpp.out, by have := hmk.out; omega⟩⟩, by simp [intOf]; omega⟩
      · replace hpp := Lib.hid hpp
        go_wp2_with (fail)
        refine ⟨⟨k + 1, m + 1, _, rfl, rfl, rfl, by omega, by have := hmk.out; omega, Lib.hid ⟨by simpa using hpp.out, by have := hmk.out; omega⟩⟩, by simp [intOf]; omega⟩
    · have hk' : ¬ (k : Int) < (n : Int) := by omega
      obtain rfl : k = n := by omega
      obtain ⟨hp, hmk⟩ := hQ.out
      rw [hfin.out] at hp
      have e1 : P1 = s := by rw [← hP1.out, hp]
      have e2 : P2 = m := by rw [← hP2.out, hp]
      subst e1 e2
      clear hp hmk hQ hm0
      go_wp2_with (fail)
      go_returns
      exact ⟨rfl, rfl⟩
set_option maxRecDepth 100000 in
theorem walk_words (f : Int) (A : Option Addr) (n c : Nat) (w : World) (hM : Mk w) (hf : -9223372036854775808 ≤ f ∧ f ≤ 9223372036854775807) (ho : Privs17 w A n) : Calls Tryd.prog 5 #[.int .i64 f, .slice A n c] w fun e w' => e = .returned (.bool true) ∧ Below w.heap.size w w' := by
  obtain ⟨xs, hn, hr, _⟩ := pr_open ho
  have hn4 := ho.1
  have hsh := Lib.hid (shown_any w hM)
  have q1 := Lib.hid (fun W (hb : Below w.heap.size w W) => points_any A n c xs W hn (hr.bel hb) (by omega))
  have q2 := Lib.hid (fun W (hb : Below w.heap.size w W) => rpoints_any A n c xs W hn (hr.bel hb) (by omega))
  have q3 := Lib.hid (fun W (hb : Below w.heap.size w W) => word_any f W (hM.bel hb))
  have q4 := Lib.hid (fun W => rword_any f W)
  obtain ⟨P1, hP1⟩ : ∃ P, (ptsP xs).1 = P := ⟨_, rfl⟩
  obtain ⟨P2, hP2⟩ : ∃ P, (ptsP xs).2 = P := ⟨_, rfl⟩
  obtain ⟨W9, hW9⟩ : ∃ W, wordB f = W := ⟨_, rfl⟩
  simp only [hP1, hP2] at q1 q2
  rw [hW9] at q3 q4
  clear hP1 hP2 hW9 hr hn hM ho hf
  go_enter Tryd.func5, Tryd.ntmps5
  go_wp2_with (fail)
  refine hsh.out.mono ?_
  rintro e w1 ⟨rfl, hb⟩
  have hB := Lib.hid hb
  clear hb hsh
  go_wp2_with (fail)
  refine (q1.out w1 hB.out).mono ?_
  rintro e w2 ⟨rfl, hb⟩
  replace hB := Lib.hid (hB.out.trans (hb.mono hB.out.size))
  clear hb q1
  go_wp2_with (fail)
  refine (q2.out w2 hB.out).mono ?_
  rintro e w3 ⟨rfl, hw3⟩
  replace hw3 := hw3.symm
  subst hw3
  clear q2
  go_wp2_with (fail)
  refine (q3.out w2 hB.out).mono ?_
  rintro e w4 ⟨rfl, hb⟩
  replace hB := Lib.hid (hB.out.trans (hb.mono hB.out.size))
  clear hb q3
  go_wp2_with (fail)
  refine (q4.out w4).mono ?_
  rintro e w5 ⟨rfl, hb⟩
  replace hB := Lib.hid (hB.out.trans (hb.mono hB.out.size))
  clear hb q4
  go_wp2_with (fail)
  go_returns
  exact ⟨rfl, hB.out⟩
/-! newlines -/
theorem count_none {l : List UInt8} (h : (10 : UInt8) ∉ l) : l.count 10 = 0 := List.count_eq_zero.2 h
theorem lineL_count (i : Nat) (b : List UInt8) (h : (10 : UInt8) ∉ b) : (lineL i b).count 10 = 1 := by
  unfold lineL
  rw [List.count_append, List.count_append, List.count_append, count_none (no10_itoa _), count_none h]
  rfl
theorem linesL_count {X : Type} {bd : X → List UInt8} (h : ∀ x, (10 : UInt8) ∉ bd x) : ∀ (l : List X) (i : Nat), (linesL bd i l).count 10 = l.length
  | [], i => rfl
  | x :: l, i => by rw [linesL, List.count_append, lineL_count i _ (h x), linesL_count h l (i + 1), List.length_cons]; omega
theorem linesL_last {X : Type} {bd : X → List UInt8} : ∀ (l : List X) (i : Nat), linesL bd i l = [] ∨ ∃ p, linesL bd i l = p ++ [10]
  | [], i => .inl rfl
  | x :: l, i => by
    right
    rcases linesL_last l (i + 1) with h | ⟨p, h⟩
    · rw [linesL, h, List.append_nil]
      exact ⟨_, rfl⟩
    · rw [linesL, h]
      exact ⟨_, (List.append_assoc _ _ _).symm⟩
theorem stop_at {P : List UInt8} {a : Nat} (hP : P = [] ∨ ∃ p, P = p ++ [10]) (ha : a ≤ P.length) (h : (P.take a).count 10 = P.count 10) : a = P.length := by
  rcases hP with rfl | ⟨p, rfl⟩
  · simpa using ha
  · apply Classical.byContradiction
    intro hn
    have hlt : a ≤ p.length := by rw [List.length_append, List.length_singleton] at ha hn; omega
    rw [List.take_append_of_le_length hlt, List.count_append] at h
    have h1 : (p.take a).count 10 ≤ p.count 10 := (List.take_sublist a p).count_le 10
    simp at h
    omega
end Go.Proofs.YtbhgjjicmbbjaaaDoor
