import Derived.Test.YtndgcndmkfjdgaaDoorPlJ
namespace Go.Proofs.YtndgcndmkfjdgaaDoor
open Go.RowKit Go.Extern.Stop Go.Stop Go.Extern
set_option linter.unusedVariables false
set_option linter.unusedSimpArgs false
/-! the law's shown -/
theorem Tt.dr {W : World} {base t : Nat} {V : Value} {a v : Pt} {dn : Bool} {ms : List Mk} (T : Tt W base t V a v dn ms) : Dr (ms.map mkW) ms := by
  refine ⟨by simp, by simpa using T.le, fun i hi => ?_⟩
  have hi2 : i < ms.length := by simpa using hi
  have hok := T.ok i hi2
  have e : (ms.map mkW)[i] = mkW (ms.getD i m0) := by
    rw [List.getElem_map, List.getD_eq_getElem?_getD, List.getElem?_eq_getElem hi2]
    rfl
  rw [e]
  exact ⟨mkW_nk ⟨hok.1, hok.2.1⟩, hok⟩
theorem Dr.lt {xs : List Mw} {zs : List Mk} (h : Dr xs zs) : ∀ x ∈ xs, Ltw x := fun x hx => by
  obtain ⟨i, hi, rfl⟩ := List.getElem_of_mem hx
  exact nk_lt (h.2.2 i hi).1
def sq : List Mk := [((0, 0), (2, 0)), ((2, 0), (2, 1)), ((2, 1), (0, 1)), ((0, 1), (0, 0))]
theorem sq_closed : closedZ sq := ⟨by decide, by decide⟩
theorem sq_area : areaZ sq = 4 := by decide +kernel
theorem sq_wide : ¬ (99 < wide sq ∨ 99 < high sq) := by decide +kernel
theorem sq_draw : drawZ sq = [43, 45, 43, 10, 43, 45, 43, 10] := by decide +kernel
theorem fi_m1 : fi (-1) false = 13830554455654793216 := by decide +kernel
/-- one step that draws -/
theorem step_draw {w W : World} {t : Nat} {V : Value} {a v : Pt} {ms : List Mk} (T : Tt W w.heap.size t V a v true ms) (hB : Below w.heap.size w W) (ht : w.heap.size ≤ t) (n : Int) (b : Pt) (hb : toZ a v n = b) (hs : Sm b 16777216) (h0 : n ≠ 0) (h4 : ms.length < 4096) :
    Calls Tryd.prog 21 #[.pointer (some ⟨t, 0, none⟩), .int .i64 n] W fun e W' => e = .returned (.int .i64 0) ∧ ∃ V', Tt W' w.heap.size t V' b v true (ms ++ [(a, b)]) ∧ Below w.heap.size w W' := by
  subst hb
  refine (tfwd_draw T n hs h0 h4 hB.size).mono ?_
  rintro e W' ⟨rfl, V', hT, hd, _⟩
  exact ⟨rfl, V', hT, hB.trans (hd.below ht (fun k hk => own_ge T.row k hk) hB.size)⟩
theorem step_turn {w W : World} {t : Nat} {V : Value} {a v : Pt} {ms : List Mk} (T : Tt W w.heap.size t V a v true ms) (hB : Below w.heap.size w W) (ht : w.heap.size ≤ t) (n : Int) (u : Pt) (hu : turnZ v n = u) :
    Calls Tryd.prog 28 #[.pointer (some ⟨t, 0, none⟩), .int .i64 n] W fun e W' => e = .returned (.tuple #[]) ∧ Tt W' w.heap.size t V a u true ms ∧ Below w.heap.size w W' := by
  subst hu
  refine (tturn T n).mono ?_
  rintro e W' ⟨rfl, hT, hd⟩
  exact ⟨rfl, hT, hB.trans (hd.below ht hB.size)⟩
/-- its marks, as a slice that is read -/
theorem marks_read {W : World} {base t : Nat} {V : Value} {a v : Pt} {dn : Bool} {ms : List Mk} (T : Tt W base t V a v dn ms) :
    Calls Tryd.prog 24 #[.pointer (some ⟨t, 0, none⟩)] W fun e W' => ∃ A c, e = .returned (.slice A ms.length c) ∧ Mks W' A (ms.map mkW) ∧ Below W.heap.size W W' := by
  refine (tmarks T).mono ?_
  rintro e W' ⟨A, c, rfl, hr, hb⟩
  exact ⟨A, c, rfl, (own_mks hr T.dr.lt).2, hb⟩
set_option maxRecDepth 100000 in
set_option maxHeartbeats 4000000 in
theorem shown_any (w : World) : Calls Tryd.prog 11 #[] w fun e w' => e = .returned (.bool true) ∧ Below w.heap.size w w' := by
  have hn := Lib.hid (fun w => tnew w)
  go_enter Tryd.func11, Tryd.ntmps11
  go_wp2_with (fail)
  refine (hn.out _).mono ?_
  rintro e w1 ⟨rfl, hT, hB⟩
  obtain ⟨t, ht⟩ : ∃ t, w.heap.size = t := ⟨_, rfl⟩
  have hk : w.heap.size ≤ t := Nat.le_of_eq ht
  have hT : Tt w1 w.heap.size t (.slice none 0 0) (0, 0) (1, 0) true [] := by rw [← ht]; exact hT
  replace hT := Lib.hid hT
  replace hB := Lib.hid hB
  replace hk := Lib.hid hk
  have hk := hk.out
  rw [ht]
  clear ht hn
  go_wp2_with (fail)
  refine wp_loop_rounds 5 ?_
  rw [rounds_succ]
  go_wp2_with (fail)
  refine (step_draw hT.out hB.out hk (2) ((2, 0)) (by decide) (by unfold Sm; decide) (by decide) (by decide)).mono ?_
  rintro e w1 ⟨rfl, V', hT1, hB1⟩
  replace hT := Lib.hid hT1
  replace hB := Lib.hid hB1
  clear hT1 hB1
  go_wp2_with (fail)
  refine (step_turn hT.out hB.out hk 1 ((0, 1)) (by decide)).mono ?_
  rintro e w1 ⟨rfl, hT1, hB1⟩
  replace hT := Lib.hid hT1
  replace hB := Lib.hid hB1
  clear hT1 hB1
  go_wp2_with (fail)
  rw [rounds_succ]
  go_wp2_with (fail)
  refine (step_draw hT.out hB.out hk (1) ((2, 1)) (by decide) (by unfold Sm; decide) (by decide) (by decide)).mono ?_
  rintro e w1 ⟨rfl, V', hT1, hB1⟩
  replace hT := Lib.hid hT1
  replace hB := Lib.hid hB1
  clear hT1 hB1
  go_wp2_with (fail)
  refine (step_turn hT.out hB.out hk 1 ((-1, 0)) (by decide)).mono ?_
  rintro e w1 ⟨rfl, hT1, hB1⟩
  replace hT := Lib.hid hT1
  replace hB := Lib.hid hB1
  clear hT1 hB1
  go_wp2_with (fail)
  rw [rounds_succ]
  go_wp2_with (fail)
  refine (step_draw hT.out hB.out hk (2) ((0, 1)) (by decide) (by unfold Sm; decide) (by decide) (by decide)).mono ?_
  rintro e w1 ⟨rfl, V', hT1, hB1⟩
  replace hT := Lib.hid hT1
  replace hB := Lib.hid hB1
  clear hT1 hB1
  go_wp2_with (fail)
  refine (step_turn hT.out hB.out hk 1 ((0, -1)) (by decide)).mono ?_
  rintro e w1 ⟨rfl, hT1, hB1⟩
  replace hT := Lib.hid hT1
  replace hB := Lib.hid hB1
  clear hT1 hB1
  go_wp2_with (fail)
  rw [rounds_succ]
  go_wp2_with (fail)
  refine (step_draw hT.out hB.out hk (1) ((0, 0)) (by decide) (by unfold Sm; decide) (by decide) (by decide)).mono ?_
  rintro e w1 ⟨rfl, V', hT1, hB1⟩
  replace hT := Lib.hid hT1
  replace hB := Lib.hid hB1
  clear hT1 hB1
  go_wp2_with (fail)
  rw [rounds_succ]
  go_wp2_with (fail)
  have hT : Hid (Tt w1 w.heap.size t V' (0, 0) (0, -1) true sq) := hT
  refine (marks_read hT.out).mono ?_
  rintro e w2 ⟨A, c, rfl, hm, hb2⟩
  replace hB := Lib.hid (hB.out.trans (hb2.mono hB.out.size))
  replace hT := Lib.hid (hT.out.bel hb2)
  clear hb2
  replace hm := Lib.hid hm
  have har := fun W h => parea_ok A (sq.map mkW) sq 4 c W rfl h hT.out.dr sq_closed
  rw [sq_area] at har
  replace har := Lib.hid har
  go_wp2_with (fail)
  refine (har.out _ hm.out).mono ?_
  rintro e w3 ⟨rfl, hb2⟩
  replace hB := Lib.hid (hB.out.trans (hb2.mono hB.out.size))
  replace hT := Lib.hid (hT.out.bel hb2)
  clear hb2 hm har
  go_wp2_with (fail)
  refine (marks_read hT.out).mono ?_
  rintro e w4 ⟨A, c, rfl, hm, hb2⟩
  replace hB := Lib.hid (hB.out.trans (hb2.mono hB.out.size))
  replace hT := Lib.hid (hT.out.bel hb2)
  clear hb2
  replace hm := Lib.hid hm
  have har := fun W h => pdraw_go A (sq.map mkW) sq 4 c W rfl (by decide) h hT.out.dr
  rw [if_neg sq_wide, sq_draw] at har
  replace har := Lib.hid har
  go_wp2_with (fail)
  refine (har.out _ hm.out).mono ?_
  rintro e w5 ⟨rfl, hb2⟩
  replace hB := Lib.hid (hB.out.trans (hb2.mono hB.out.size))
  replace hT := Lib.hid (hT.out.bel hb2)
  clear hb2 hm har
  have e1 : (FloatKind.f64.format.order 0 0 == some .eq) = true := by decide +kernel
  have e2 : (FloatKind.f64.format.order 13830554455654793216 13830554455654793216 == some .eq) = true := by decide +kernel
  have hat := tat hT.out
  rw [cw_zero] at hat
  have hway := tway hT.out
  have ew : cw (0, -1) = .complex .f64 0 13830554455654793216 := by unfold cw; rw [fi_zero, fi_m1]
  rw [ew] at hway
  replace hat := Lib.hid hat
  replace hway := Lib.hid hway
  clear ew
  go_wp2_with (fail)
  refine hat.out.mono ?_
  rintro e w6 ⟨rfl, hw_⟩
  have hw_ := hw_.symm
  subst hw_
  go_wp2_with (fail)
  refine hway.out.mono ?_
  rintro e w6 ⟨rfl, hw_⟩
  have hw_ := hw_.symm
  subst hw_
  go_wp2_with (fail)
  refine (marks_read hT.out).mono ?_
  rintro e w7 ⟨A, c, rfl, hm, hb2⟩
  replace hB := Lib.hid (hB.out.trans (hb2.mono hB.out.size))
  clear hm hb2
  have hl4 : sq.length = 4 := rfl
  rw [hl4]
  go_wp2_with (fail)
  go_returns
  exact ⟨rfl, hB.out⟩
end Go.Proofs.YtndgcndmkfjdgaaDoor
