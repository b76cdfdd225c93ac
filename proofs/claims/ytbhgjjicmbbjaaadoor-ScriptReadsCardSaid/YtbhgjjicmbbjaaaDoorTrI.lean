import Derived.Test.YtbhgjjicmbbjaaaDoorTrH
namespace Go.Proofs.YtbhgjjicmbbjaaaDoor
open Go.RowKit
set_option linter.unusedVariables false
set_option linter.unusedSimpArgs false
/-! chapter 17: Public, Private, Points -/
theorem Public_any (A : Option Addr) (n c : Nat) (xs : List Pu) (w : World) (hM : Mk w) (hn : xs.length = n) (hr : PuRow w A xs) (hI : ∀ x ∈ xs, puI x) (hcap : n ≤ 140737488355328) :
    Calls Tryd.prog 12 #[.slice A n c] w fun e w' => e = .returned (.tuple #[.string ⟨(writeT puOk puL xs).toArray⟩, .int .i64 (writeE puOk xs)]) ∧ Below w.heap.size w w' := by
  have h := Lib.hid (lines_pu A n c xs w hM hn hr hI hcap)
  clear hM hn hr hI hcap
  go_enter Tryd.func12, Tryd.ntmps12
  go_wp2_with (fail)
  refine h.out.mono ?_
  rintro e w1 ⟨rfl, hb⟩
  go_wp2_with (fail)
  go_returns
  exact ⟨rfl, hb⟩
theorem Private_any (A : Option Addr) (n c : Nat) (xs : List Pr) (w : World) (hM : Mk w) (hn : xs.length = n) (hr : PrRow w A xs) (hI : ∀ x ∈ xs, prI x) (hcap : n ≤ 140737488355328) :
    Calls Tryd.prog 14 #[.slice A n c] w fun e w' => e = .returned (.tuple #[.string ⟨(writeT prOk prL xs).toArray⟩, .int .i64 (writeE prOk xs)]) ∧ Below w.heap.size w w' := by
  have h := Lib.hid (lines_pr A n c xs w hM hn hr hI hcap)
  clear hM hn hr hI hcap
  go_enter Tryd.func14, Tryd.ntmps14
  go_wp2_with (fail)
  refine h.out.mono ?_
  rintro e w1 ⟨rfl, hb⟩
  go_wp2_with (fail)
  go_returns
  exact ⟨rfl, hb⟩
/-- the sum of points, and how many said any -/
def ptsP (l : List Pr) : Int × Nat := l.foldl (fun a x => if x.said then (wrap64 (a.1 + x.points), a.2 + 1) else a) (0, 0)
theorem ptsP_push (l : List Pr) (x : Pr) : ptsP (l ++ [x]) = if x.said then (wrap64 ((ptsP l).1 + x.points), (ptsP l).2 + 1) else ptsP l := by
  unfold ptsP
  rw [List.foldl_append]
  rfl
theorem ptsP_le (l : List Pr) : (ptsP l).2 ≤ l.length := by
  have key : ∀ (l : List Pr) (a : Int × Nat), (l.foldl (fun a x => if x.said then (wrap64 (a.1 + x.points), a.2 + 1) else a) a).2 ≤ a.2 + l.length := by
    intro l
    induction l with
    | nil => intro a; simp
    | cons x l ih =>
      intro a
      rw [List.foldl_cons]
      refine Nat.le_trans (ih _) ?_
      rw [List.length_cons]
      split <;> simp <;> omega
  have := key l (0, 0)
  simpa [ptsP] using this
set_option maxRecDepth 100000 in
theorem points_any (A : Option Addr) (n c : Nat) (xs : List Pr) (w : World) (hn : xs.length = n) (hr : PrRow w A xs) (hcap : n ≤ 140737488355328) :
    Calls Tryd.prog 16 #[.slice A n c] w fun e w' => e = .returned (.tuple #[.int .i64 (ptsP xs).1, .int .i64 ((ptsP xs).2 : Int)]) ∧ Below w.heap.size w w' := by
  have hfin : ptsP (xs.take n) = ptsP xs := by rw [List.take_of_length_le (by omega)]
  obtain ⟨P1, hP1⟩ : ∃ P, (ptsP xs).1 = P := ⟨_, rfl⟩
  obtain ⟨P2, hP2⟩ : ∃ P, (ptsP xs).2 = P := ⟨_, rfl⟩
  rw [hP1, hP2]
  have hcap' : (n : Int) ≤ 140737488355328 := by omega
  replace hP1 := Lib.hid hP1
  replace hP2 := Lib.hid hP2
  replace hr := Lib.hid hr
  replace hn := Lib.hid hn
  replace hfin := Lib.hid hfin
  go_enter Tryd.func16, Tryd.ntmps16
  go_wp2_with (fail)
  go_loopw [4, 5, 10] (fun x4 x5 x10 wr => ∃ (k m : Nat) (s : Int), x4 = .int .i64 s ∧ x5 = .int .i64 m ∧ x10 = .int .i64 k ∧ k ≤ n ∧ m ≤ n ∧ Hid (ptsP (xs.take k) = (s, m) ∧ m ≤ k ∧ Below w.heap.size w wr)) (fun _ _ x10 _ => n - (intOf x10).toNat)
  case atStart => exact ⟨0, 0, 0, rfl, rfl, rfl, Nat.zero_le _, Nat.zero_le _, Lib.hid ⟨rfl, Nat.le_refl _, Below.refl _ _⟩⟩
  case round =>
    obtain ⟨k, m, s, rfl, rfl, rfl, hk0, hm0, hQ⟩ := hrel
    by_cases hk : k < n
    · have hk' : (k : Int) < (n : Int) := by omega
      have hm' : (m : Int) ≤ 140737488355328 := by omega
      obtain ⟨hp, hmk, hW⟩ := hQ.out
      obtain ⟨x, hx⟩ : ∃ x, xs[k]? = some x := ⟨_, List.getElem?_eq_getElem (by rw [hn.out]; exact hk)⟩
      obtain ⟨b, off, rfl, hbl, c0, c1, c2, c3, c4⟩ := hr.out k x hx
      replace c0 := (hW.cell (p := ⟨b, off + k * 5, none⟩) hbl).trans c0
      replace c1 := (hW.cell (p := ⟨b, off + k * 5 + 1, none⟩) hbl).trans c1
      replace c2 := (hW.cell (p := ⟨b, off + k * 5 + 2, none⟩) hbl).trans c2
      replace c3 := (hW.cell (p := ⟨b, off + k * 5 + 3, none⟩) hbl).trans c3
      replace c4 := (hW.cell (p := ⟨b, off + k * 5 + 4, none⟩) hbl).trans c4
      have htk : xs.take (k + 1) = xs.take k ++ [x] := by rw [List.take_add_one, hx]; rfl
      have hpp := ptsP_push (xs.take k) x
      rw [← htk, hp] at hpp
      obtain ⟨p, sd, f, fu, lg⟩ := x
      simp only at c0 c1 c2 c3 c4 hpp
      have hW2 := hW.alloc hW.size (.cells #[.int .i64 p, .bool sd, .int .i64 f, .int .i64 fu, .string lg] 34)
      replace hW2 := Lib.hid hW2
      replace hmk := Lib.hid hmk
      replace hm0 := Lib.hid hm0
      clear hQ hp hW hbl hx htk
      cases sd
      · replace hpp := Lib.hid hpp
        go_wp2_with (fail)
        exact ⟨⟨k + 1, m, s, rfl, rfl, rfl, by omega, by have := hm0.out; omega, Lib.hid ⟨by simpa using hpp.out, by have := hmk.out; omega, hW2.out⟩⟩, by simp [intOf]; omega⟩
      · replace hpp := Lib.hid hpp
        go_wp2_with (fail)
        refine ⟨⟨k + 1, m + 1, _, rfl, rfl, rfl, by omega, by have := hmk.out; omega, Lib.hid ⟨by simpa using hpp.out, by have := hmk.out; omega, hW2.out⟩⟩, by simp [intOf]; omega⟩
    · have hk' : ¬ (k : Int) < (n : Int) := by omega
      obtain rfl : k = n := by omega
      obtain ⟨hp, hmk, hW⟩ := hQ.out
      rw [hfin.out] at hp
      have e1 : P1 = s := by rw [← hP1.out, hp]
      have e2 : P2 = m := by rw [← hP2.out, hp]
      subst e1 e2
      replace hW := Lib.hid hW
      clear hp hmk hQ hm0
      go_wp2_with (fail)
      go_returns
      exact ⟨rfl, hW.out⟩
end Go.Proofs.YtbhgjjicmbbjaaaDoor
