import Derived.Test.YtndgcndmkfjdgaaDoorPlO
namespace Go.Proofs.YtndgcndmkfjdgaaDoor
open Go.RowKit Go.Extern.Stop Go.Stop Go.Extern
set_option linter.unusedVariables false
set_option linter.unusedSimpArgs false
/-! Turned; Moved and Turned of what may not be -/
theorem turned_in {zs : List Mk} (k : Int) (h : ∀ i, i < zs.length → inR (zs.getD i m0)) : ∀ i, i < zs.length → inR (both (fun z => turnZ z k) (zs.getD i m0)) := fun i hi => ⟨turnZ_sm k (h i hi).1, turnZ_sm k (h i hi).2⟩
set_option maxHeartbeats 1000000 in
theorem pturned_any (A : Option Addr) (xs : List Mw) (zs : List Mk) (n c : Nat) (k : Int) (w : World) (hm : xs.length = n) (h : Mks w A xs) (hD : Dr xs zs) :
    Calls Tryd.prog 37 #[.slice A n c, .int .i64 k] w fun e w' => ∃ A' c', e = .returned (.tuple #[.slice A' n c', .int .i64 0]) ∧ Mks w' A' ((zs.map (both (fun z => turnZ z k))).map mkW) ∧ Below w.heap.size w w' := by
  have hzl : zs.length = n := by rw [hD.1, hm]
  have hin := turned_in k (zs := zs) (fun i hi => ⟨(hD.2.2 i (by rw [← hD.1]; exact hi)).2.1, (hD.2.2 i (by rw [← hD.1]; exact hi)).2.2.1⟩)
  have hbk := Bk.fresh w 3 #[.int .i64 k]
  have hB := (Below.refl w.heap.size w).alloc (Nat.le_refl _) (.cells #[.int .i64 k] 3)
  obtain ⟨X, hX⟩ : ∃ X, w.alloc (.cells #[.int .i64 k] 3) = X := ⟨_, rfl⟩
  obtain ⟨bx, hbx⟩ : ∃ bx, w.heap.size = bx := ⟨_, rfl⟩
  rw [hX, hbx] at hbk
  rw [hX] at hB
  have hE := each_turned A xs zs n c bx (fun z => turnZ z k) X hm (h.kept hB) hD (fun W hW x z hx hz => turned1 W (hbk.kept hW hbk.lt) x z hx hz)
  have hE : Calls Tryd.prog 55 #[.slice A n c, .func (.func 58) #[] #[.pointer (some ⟨bx, 0, none⟩)]] X fun e w' => ∃ A' c', e = .returned (.tuple #[.slice A' n c', .int .i64 0]) ∧ Hid (Mks w' A' ((zs.map (both (fun z => turnZ z k))).map mkW) ∧ Below w.heap.size w w') := hE.mono fun e w' hh => by
    rw [if_pos (by rw [← hzl]; exact hin)] at hh
    obtain ⟨A', c', he, hrow, hb⟩ := hh
    exact ⟨A', c', he, Lib.hid ⟨(own_mks hrow (mkW_lt (all_in hin))).2, hB.trans (hb.mono hB.size)⟩⟩
  replace hE := Lib.hid hE
  clear hbk hB h hD hin
  go_enter Tryd.func37, Tryd.ntmps37
  go_wp2_with (fail)
  refine hE.out.mono ?_
  rintro e w2 ⟨A', c', rfl, hh⟩
  go_wp2_with (fail)
  go_returns
  exact ⟨_, _, rfl, hh.out⟩
set_option maxHeartbeats 1000000 in
theorem pturned_arg (A : Option Addr) (xs : List Mw) (n c : Nat) (k : Int) (w : World) (hm : xs.length = n) (h : Mks w A xs) (hno : ¬ Rg xs) :
    Calls Tryd.prog 37 #[.slice A n c, .int .i64 k] w fun e w' => e = .returned (.tuple #[.slice none 0 0, .int .i64 1]) ∧ Below w.heap.size w w' := by
  have hB := (Below.refl w.heap.size w).alloc (Nat.le_refl _) (.cells #[.int .i64 k] 3)
  have hE := Lib.hid ((each_bad A xs n c 58 w.heap.size (w.alloc (.cells #[.int .i64 k] 3)) hm (h.kept hB) hno).mono fun e w' hh => (⟨hh.1, hB.trans (hh.2.mono hB.size)⟩ : _ ∧ Below w.heap.size w w'))
  clear hB h hno hm
  go_enter Tryd.func37, Tryd.ntmps37
  go_wp2_with (fail)
  refine hE.out.mono ?_
  rintro e w2 ⟨rfl, hh⟩
  go_wp2_with (fail)
  go_returns
  exact ⟨rfl, hh⟩
set_option maxHeartbeats 1000000 in
theorem pmoved_arg (A : Option Addr) (xs : List Mw) (n c b1 b2 : Nat) (w : World) (hm : xs.length = n) (h : Mks w A xs) (hl : b1 < 18446744073709551616 ∧ b2 < 18446744073709551616) (hno : ¬ (Rt b1 ∧ Rt b2) ∨ ¬ Rg xs) :
    Calls Tryd.prog 35 #[.slice A n c, .complex .f64 b1 b2] w fun e w' => e = .returned (.tuple #[.slice none 0 0, .int .i64 1]) ∧ Below w.heap.size w w' := by
  have hB := (Below.refl w.heap.size w).alloc (Nat.le_refl _) (.cells #[.complex .f64 b1 b2] 43)
  by_cases hr : Rt b1 ∧ Rt b2
  · have hno : ¬ Rg xs := by rcases hno with h | h; exact absurd hr h; exact h
    have hE := Lib.hid (fun m => ((each_bad A xs n c 56 w.heap.size ((w.alloc (.cells #[.complex .f64 b1 b2] 43)).drewN m) hm ((h.kept hB).draws m) hno).mono fun e w' hh => (⟨hh.1, (below_drewN hB).trans (hh.2.mono (below_drewN hB).size)⟩ : _ ∧ Below w.heap.size w w')))
    have hy := Lib.hid (fun W => right_yes b1 b2 hr hl.1 hl.2 W)
    clear hB h hno hm hr hl
    go_enter Tryd.func35, Tryd.ntmps35
    go_wp2_with (fail)
    refine (hy.out _).mono ?_
    rintro e w1 ⟨rfl, m, hw_⟩
    have hw_ := hw_.symm
    subst hw_
    go_wp2_with (fail)
    refine (hE.out m).mono ?_
    rintro e w2 ⟨rfl, hh⟩
    go_wp2_with (fail)
    go_returns
    exact ⟨rfl, hh⟩
  · have hy := Lib.hid (fun W => right_no b1 b2 hr hl.1 hl.2 W)
    replace hB := Lib.hid hB
    clear h hno hm hr hl
    go_enter Tryd.func35, Tryd.ntmps35
    go_wp2_with (fail)
    refine (hy.out _).mono ?_
    rintro e w1 ⟨rfl, m, hw_⟩
    have hw_ := hw_.symm
    subst hw_
    have hB2 := Lib.hid (below_drewN (m := m) hB.out)
    clear hB
    go_wp2_with (fail)
    go_returns
    exact ⟨rfl, hB2.out⟩
end Go.Proofs.YtndgcndmkfjdgaaDoor
