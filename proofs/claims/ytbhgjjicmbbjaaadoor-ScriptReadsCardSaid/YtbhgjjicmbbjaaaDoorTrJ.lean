import Derived.Test.YtbhgjjicmbbjaaaDoorTrC
import Derived.Lib.IndexBytes
namespace Go.Proofs.YtbhgjjicmbbjaaaDoor
open Go.RowKit
set_option linter.unusedVariables false
set_option linter.unusedSimpArgs false
/-! chapter 17: strings.Cut at one byte; fault; Atoi -/
theorem index_untl (c : UInt8) : ∀ l : List UInt8, Lib.indexByte l c = if (untl c l).2.2 then ((untl c l).1.length : Int) else -1
  | [] => rfl
  | b :: l => by
    rw [Lib.indexByte, untl]
    by_cases h : b = c
    · rw [if_pos (by simpa using h), if_pos h]; rfl
    · rw [if_neg (by simpa using h), if_neg h, index_untl c l]
      cases (untl c l).2.2
      · rfl
      · simp only [if_true, List.length_cons]
        rw [if_neg (by simp)]
        omega
def untB (c : UInt8) (s : ByteArray) : ByteArray × ByteArray × Bool := (⟨(untl c s.data.toList).1.toArray⟩, ⟨(untl c s.data.toList).2.1.toArray⟩, (untl c s.data.toList).2.2)
theorem split_at {L a r : List UInt8} {c : UInt8} (h : L = a ++ c :: r) : L.take a.length = a ∧ L.drop (a.length + 1) = r ∧ a.length + 1 ≤ L.length := by
  subst h
  refine ⟨by rw [List.take_left'] ; rfl, ?_, by rw [List.length_append, List.length_cons]; omega⟩
  rw [List.drop_append, List.drop_of_length_le (by omega), List.nil_append, show a.length + 1 - a.length = 1 by omega]
  rfl
theorem untB_hit (c : UInt8) (s : ByteArray) (h : (untl c s.data.toList).2.2 = true) : ∃ i : Nat, (untl c s.data.toList).1.length = i ∧ i + 1 ≤ s.size ∧ (untB c s).1 = s.extract 0 i ∧ (untB c s).2.1 = s.extract (i + 1) s.size := by
  rcases (untl_spec c s.data.toList).2 with ⟨_, h2⟩ | ⟨h1, _⟩
  · have hsz : s.data.toList.length = s.size := by first | (simp; done) | (simp; rfl)
    obtain ⟨g1, g2, g3⟩ := split_at h2
    refine ⟨_, rfl, by omega, ?_, ?_⟩
    · rw [Lib.extract_eq]
      unfold untB
      simp only [List.drop_zero, Nat.sub_zero]
      rw [g1]
    · rw [Lib.extract_eq]
      unfold untB
      simp only
      rw [g2, List.take_of_length_le (by rw [← g2, List.length_drop, hsz]; exact Nat.le_refl _)]
  · rw [h] at h1; cases h1
theorem untB_miss (c : UInt8) (s : ByteArray) (h : (untl c s.data.toList).2.2 = false) : (untB c s).1 = s ∧ (untB c s).2.1 = ⟨#[]⟩ := by
  rcases (untl_spec c s.data.toList).2 with ⟨h1, _⟩ | ⟨_, h2, h3⟩
  · rw [h] at h1; cases h1
  · unfold untB
    simp only
    rw [h3, ← h2]
    exact ⟨by cases s; rfl, rfl⟩
set_option maxRecDepth 100000 in
theorem lcut_any (s : ByteArray) (c : UInt8) (hs : s.size ≤ 4000000) (w : World) : Calls Tryd.prog 59 #[.string s, .string ⟨#[c]⟩] w fun e w' => e = .returned (.tuple #[.string (untB c s).1, .string (untB c s).2.1, .bool (untB c s).2.2]) ∧ ∃ n, w' = w.drewN n := by
  have hix := Lib.hid (Tryd.stringslite_Index_one s c)
  rw [index_untl] at hix
  obtain ⟨U, hU⟩ : ∃ U, untB c s = U := ⟨_, rfl⟩
  have hU3 : U.2.2 = (untl c s.data.toList).2.2 := by rw [← hU]; rfl
  cases hb : (untl c s.data.toList).2.2
  · obtain ⟨e1, e2⟩ := untB_miss c s hb
    rw [hU] at e1 e2 ⊢
    rw [hU3, hb, e1, e2]
    rw [hb] at hix
    clear hU hU3 e1 e2 hb
    go_enter Tryd.func59, Tryd.ntmps59
    go_wp2_with (fail)
    refine (hix.out _).mono ?_
    rintro e w1 ⟨rfl, rfl⟩
    go_wp2_with (fail)
    go_returns
    exact ⟨rfl, 0, rfl⟩
  · obtain ⟨i, e0, hi, e1, e2⟩ := untB_hit c s hb
    rw [hU] at e1 e2 ⊢
    rw [hU3, hb, e1, e2]
    rw [hb] at hix
    simp only [if_true] at hix
    rw [e0] at hix
    have c2 : (i : Int) ≤ ↑s.size := by omega
    have c4 : ((i : Int) + 1) ≤ ↑s.size := by omega
    have c5 : (i : Int) ≤ 4000000 := by omega
    have c6 : (s.size : Int) ≤ 4000000 := by omega
    clear hU hU3 e1 e2 hb e0 hi
    go_enter Tryd.func59, Tryd.ntmps59
    go_wp2_with (fail)
    refine (hix.out _).mono ?_
    rintro e w1 ⟨rfl, rfl⟩
    go_upto_region 3 with (fail)
    go_region
    go_wp2_with (fail)
    go_returns
    exact ⟨rfl, 1, rfl⟩
theorem cut_any (s : ByteArray) (c : UInt8) (hs : s.size ≤ 4000000) (w : World) : Calls Tryd.prog 41 #[.string s, .string ⟨#[c]⟩] w fun e w' => e = .returned (.tuple #[.string (untB c s).1, .string (untB c s).2.1, .bool (untB c s).2.2]) ∧ Below w.heap.size w w' := by
  have h := Lib.hid (lcut_any s c hs w)
  obtain ⟨U, hU⟩ : ∃ U, untB c s = U := ⟨_, rfl⟩
  rw [hU] at h ⊢
  go_enter Tryd.func41, Tryd.ntmps41
  go_wp2_with (fail)
  refine h.out.mono ?_
  rintro e w1 ⟨rfl, n, hn⟩
  have hb : Below w.heap.size w w1 := by rw [hn]; exact ⟨rfl, rfl, rfl, Nat.le_refl _, fun _ _ => rfl⟩
  clear hn
  replace hb := Lib.hid hb
  go_wp2_with (fail)
  go_returns
  exact ⟨rfl, hb.out⟩
/-- a fault's number, by its word -/
noncomputable def faultP (s : ByteArray) : Int := if h : ∃ k : Nat, k < 22 ∧ wsL.getD k [] = s.data.toList ∧ ∀ j, j < k → wsL.getD j [] ≠ s.data.toList then (h.choose : Int) else -1
theorem faultP_word {f : Int} (hf : 0 ≤ f ∧ f < 22) : faultP (wordB f) = f := by
  have e : (wordB f).data.toList = wsL.getD f.toNat [] := by unfold wordB wordL; rw [if_pos hf.1]
  have h : ∃ k : Nat, k < 22 ∧ wsL.getD k [] = (wordB f).data.toList ∧ ∀ j, j < k → wsL.getD j [] ≠ (wordB f).data.toList := by
    refine ⟨f.toNat, by omega, e.symm, fun j hj h => ?_⟩
    rw [e] at h
    have := wsL_inj ⟨j, by omega⟩ ⟨f.toNat, by omega⟩ h
    have : j = f.toNat := by simpa using congrArg Fin.val this
    omega
  unfold faultP
  rw [dif_pos h]
  have h2 := h.choose_spec
  have h3 := wsL_inj ⟨h.choose, h2.1⟩ ⟨f.toNat, by omega⟩ (by rw [h2.2.1, e])
  have : h.choose = f.toNat := by simpa using congrArg Fin.val h3
  omega
theorem faultP_at {s : ByteArray} {k : Nat} (hk : k < 22) (h : wsL.getD k [] = s.data.toList) (hn : ∀ j, j < k → wsL.getD j [] ≠ s.data.toList) : faultP s = k := by
  have e : ∃ k : Nat, k < 22 ∧ wsL.getD k [] = s.data.toList ∧ ∀ j, j < k → wsL.getD j [] ≠ s.data.toList := ⟨k, hk, h, hn⟩
  unfold faultP
  rw [dif_pos e]
  have h2 := e.choose_spec
  rcases Nat.lt_trichotomy e.choose k with h3 | h3 | h3
  · exact absurd h2.2.1 (hn _ h3)
  · rw [h3]
  · exact absurd h (h2.2.2 k h3)
theorem faultP_none {s : ByteArray} (hn : ∀ j, j < 22 → wsL.getD j [] ≠ s.data.toList) : faultP s = -1 := by
  unfold faultP
  rw [dif_neg]
  rintro ⟨k, hk, h, _⟩
  exact hn k hk h
theorem faultP_in (s : ByteArray) : -1 ≤ faultP s ∧ faultP s < 22 := by
  unfold faultP
  split
  · rename_i h
    have := h.choose_spec.1
    omega
  · omega
set_option maxRecDepth 100000 in
theorem fault_any (s : ByteArray) (w : World) (hM : Mk w) : Calls Tryd.prog 51 #[.string s] w fun e w' => e = .returned (.int .i64 (faultP s)) ∧ Below w.heap.size w w' := by
  have hf := Lib.hid (fields_any w hM)
  unfold wordsB at hf
  clear hM
  obtain ⟨F, hF⟩ : ∃ F, faultP s = F := ⟨_, rfl⟩
  rw [hF]
  have hat := Lib.hid (fun (k : Nat) (hk : k < 22) (hn : ∀ j, j < k → wsL.getD j [] ≠ s.data.toList) (h : wsL.getD k [] = s.data.toList) => hF.symm.trans (faultP_at hk h hn))
  have hnone := Lib.hid (fun (hn : ∀ j, j < 22 → wsL.getD j [] ≠ s.data.toList) => hF.symm.trans (faultP_none hn))
  clear hF
  go_enter Tryd.func51, Tryd.ntmps51
  go_wp2_with (fail)
  refine hf.out.mono ?_
  rintro e w1 ⟨rfl, hB, hb⟩
  obtain ⟨g, hg⟩ : ∃ g, w.heap.size = g := ⟨_, rfl⟩
  rw [hg] at hB
  replace hB := Lib.hid hB
  replace hb := Lib.hid hb
  clear hf
  go_wp2_with (fail)
  go_loop [7] (fun x7 => ∃ k : Nat, x7 = .int .i64 k ∧ k ≤ 22 ∧ Hid (∀ j, j < k → wsL.getD j [] ≠ s.data.toList)) (fun x7 => 22 - (intOf x7).toNat)
  case atStart => exact ⟨0, rfl, Nat.zero_le _, Lib.hid (fun j hj => absurd hj (Nat.not_lt_zero _))⟩
  case round =>
    obtain ⟨k, rfl, hk, hQ⟩ := hrel
    by_cases hk2 : k < 22
    · have hk' : (k : Int) < 22 := by omega
      have c := hB.out.cell k
      have hv := wsV_at (k : Int) ⟨by omega, by omega⟩
      rw [Int.toNat_natCast] at hv
      rw [hv] at c
      obtain ⟨W, hW⟩ : ∃ W, wordB (k : Int) = W := ⟨_, rfl⟩
      rw [hW] at c
      replace hW := Lib.hid hW
      clear hv
      have hWl : W.toList = wsL.getD k [] := by
        rw [← hW.out, Lib.toList_data]
        unfold wordB wordL
        rw [if_pos (by omega), Int.toNat_natCast]
      by_cases hq : wsL.getD k [] = s.data.toList
      · obtain rfl := hat.out k hk2 hQ.out hq
        have ht : (W.toList == s.toList) = true := by rw [hWl, hq, Lib.toList_data]; simp
        clear hWl hq hW
        go_wp2_with (fail)
        go_returns
        exact ⟨rfl, by first | exact hb.out | (rw [← hg]; exact hb.out)⟩
      · have ht : (W.toList == s.toList) = false := by
          rw [hWl, Lib.toList_data]
          simpa using hq
        clear hWl hW
        have hQ2 : Hid (∀ j, j < k + 1 → wsL.getD j [] ≠ s.data.toList) := fun j hj => by
          rcases (by omega : j < k ∨ j = k) with h | rfl
          · exact hQ.out j h
          · exact hq
        clear hQ hq
        go_wp2_with (fail)
        exact ⟨⟨k + 1, rfl, by omega, hQ2⟩, by simp [intOf]; omega⟩
    · have hk' : ¬ (k : Int) < 22 := by omega
      obtain rfl : k = 22 := by omega
      obtain rfl := hnone.out hQ.out
      go_wp2_with (fail)
      go_returns
      exact ⟨rfl, by first | exact hb.out | (rw [← hg]; exact hb.out)⟩
end Go.Proofs.YtbhgjjicmbbjaaaDoor
