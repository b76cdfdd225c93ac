import Derived.Test.YtmfffaocmboelaaFwF
namespace Go.Proofs.Ytmfffaocmboelaa
open Go.RowKit
set_option linter.unusedVariables false
set_option linter.unusedSimpArgs false
/-! OF, LEAVE, ENDOF -/
def doFrom (L : List Th) : Nat → Option Nat
  | 0 => none
  | i + 1 => if (L.getD i ⟨0, 0, 0, []⟩).k = 4 then some i else doFrom L i
theorem kn_do (k : Nat) : kn k = ⟨#[68, 79]⟩ ↔ k = 4 := by
  constructor
  · intro h
    match k, h with
    | 0, h => exact absurd h (by decide)
    | 1, h => exact absurd h (by decide)
    | 2, h => exact absurd h (by decide)
    | 3, h => exact absurd h (by decide)
    | 4, _ => rfl
    | 5, h => exact absurd h (by decide)
    | 6, h => exact absurd h (by decide)
    | k + 7, h => exact absurd h (by show ¬ (⟨#[]⟩ : ByteArray) = _; decide)
  · rintro rfl; rfl
section
variable {w w' : World} {b g o : Nat} {here behind y y2 y3 y4 : Int} {T : Addr} {n0 n1 n2 n3 v m V : Value} {l : List Ac} {word : ByteArray} {at_ tg : Int} {own : Nat → Prop} {X : List (Th × Value)}
/-- what lay turns is none of the things', none of their places' -/
theorem Rws.far {bb : Nat} {v va : Value} {s : Nat → Prop} {na : Nat} {xs : List Value} (h : Rws w own v X) (hO : Onl s w w') (hr : w.ownsRow (bb + 1) 36 4 va na xs) (hs : ∀ k, s k → (∃ vs, Bk w k 64 vs) ∨ va.ownBlock = some k) : Rws w' own v X := by
  refine ⟨hO.row h.row (fun g hg hk => ?_), fun x hx => hO.row (h.more x hx) (fun g hg hk => ?_), h.dist, h.own1, h.own2⟩
  · rcases hs g hk with ⟨vs, hb⟩ | hb
    · exact hb.far h.row (by decide) hg.symm
    · exact row_far h.row hr (by decide) hg hb
  · rcases hs g hk with ⟨vs, hb⟩ | hb
    · exact hb.far (h.more x hx) (by decide) hg.symm
    · exact row_far (h.more x hx) hr (by decide) hg hb
set_option maxHeartbeats 2000000 in
set_option maxRecDepth 100000 in
theorem ct_of (h : Wk w b (.slice none 0 0) [] here here T n0 n1 n2 n3) (hy : IntKind.i64.wrap (here + 8) = y) (hy2 : IntKind.i64.wrap (y + 8) = y2) (hy3 : IntKind.i64.wrap (y2 + 8) = y3) (hy4 : IntKind.i64.wrap (y3 + 8) = y4) :
    Calls Try.prog 20 #[.pointer (some ⟨b, 0, none⟩), .string ⟨#[79, 70]⟩, V] w fun e w' => e = .returned (.int .i64 1) ∧ ∃ v', Wk w' b v' [⟨false, here, 24, 0⟩, ⟨false, y, 58, 0⟩, ⟨false, y2, 5, 0⟩, ⟨false, y3, 22, 0⟩] here y4 T (.string ⟨#[79, 70]⟩) (.int .i64 y2) (.int .i64 0) (.slice none 0 0) ∧ Below b w w' := by
  replace hy := Lib.hid hy
  replace hy2 := Lib.hid hy2
  replace hy3 := Lib.hid hy3
  replace hy4 := Lib.hid hy4
  replace h := Lib.hid h
  go_enter Try.func20, Try.ntmps20
  go_wp2_with (fail)
  refine (lay_any h.out (by simp) 24 0 y hy.out).mono ?_
  rintro e w1 ⟨rfl, v1, hW1, hB1⟩
  replace hW1 := Lib.hid hW1
  replace hB1 := Lib.hid hB1
  go_wp2_with (fail)
  refine (lay_any hW1.out (by simp) 58 0 y2 hy2.out).mono ?_
  rintro e w2 ⟨rfl, v2, hW2, hB2⟩
  have c1 := hW2.bk.cell 1; have c2 := hW2.bk.cell 2; have c3 := hW2.bk.cell 3; have c4 := hW2.bk.cell 4; have c5 := hW2.bk.cell 5; have c6 := hW2.bk.cell 6; have c7 := hW2.bk.cell 7; have d4 := hW2.bk.free 4; have d5 := hW2.bk.free 5; have d6 := hW2.bk.free 6; have d7 := hW2.bk.free 7; simp at c1 c2 c3 c4 c5 c6 c7
  replace hW2 := Lib.hid hW2
  replace hB2 := Lib.hid hB2
  go_wp2_with (fail)
  refine (lay_any (hW2.out.next (.string ⟨#[79, 70]⟩) (.int .i64 y2) (.int .i64 0) (.slice none 0 0)) (by simp) 5 0 y3 hy3.out).mono ?_
  rintro e w3 ⟨rfl, v3, hW3, hB3⟩
  replace hW3 := Lib.hid hW3
  replace hB3 := Lib.hid hB3
  clear c1 c2 c3 c4 c5 c6 c7 d4 d5 d6 d7
  go_wp2_with (fail)
  refine (lay_any hW3.out (by simp) 22 0 y4 hy4.out).mono ?_
  rintro e w4 ⟨rfl, v4, hW4, hB4⟩
  replace hW4 := Lib.hid hW4
  replace hB4 := Lib.hid hB4
  go_wp2_with (fail)
  go_returns
  exact ⟨rfl, v4, hW4.out, (((below_set4 (hB1.out.trans hB2.out) (Nat.le_refl _) _ _ _ _).trans hB3.out).trans hB4.out)⟩
set_option maxHeartbeats 2000000 in
set_option maxRecDepth 100000 in
theorem ct_leave {c : Nat} (h : Wk w b (.slice none 0 0) [] here here T n0 n1 n2 n3) (hy : IntKind.i64.wrap (here + 8) = y) (hy2 : IntKind.i64.wrap (y + 8) = y2) (A : Option Addr) (hA : 0 < X.length → A = some ⟨g, 0, none⟩) (hR : Rws w own (.slice A X.length c) X) (hown : ∀ k, own k → k < b) (hn : X.length ≤ 1000) (hm : ∀ x ∈ X, x.1.more.length ≤ 100000) :
    Calls Try.prog 20 #[.pointer (some ⟨b, 0, none⟩), .string ⟨#[76, 69, 65, 86, 69]⟩, .slice A X.length c] w fun e w' =>
      (doFrom (X.map Prod.fst) X.length = none ∧ e = .returned (.int .i64 0) ∧ w' = w) ∨
      (∃ j x v' m', doFrom (X.map Prod.fst) X.length = some j ∧ X[j]? = some x ∧ e = .returned (.int .i64 2) ∧ Wk w' b v' [⟨false, here, 10, 0⟩, ⟨false, y, 4, 0⟩] here y2 T n0 n1 n2 n3 ∧
        Rws w' (fun k => own k ∨ b ≤ k) (.slice A (X.set j (x.1.plus y, m')).length c) (X.set j (x.1.plus y, m')) ∧ Onl (fun k => own k ∨ b ≤ k) w w') := by
  obtain ⟨n, hnn⟩ : ∃ n, X.length = n := ⟨_, rfl⟩
  rw [hnn] at hn hA ⊢
  have e1 : IntKind.i64.wrap ((n : Int) - 1) = (n : Int) - 1 := by rw [IntKind.wrap_i64]; omega
  have i1 : (n : Int) ≤ 1000 := by omega
  replace hy := Lib.hid hy
  replace hy2 := Lib.hid hy2
  replace h := Lib.hid h
  replace hA := Lib.hid hA
  replace hR := Lib.hid hR
  replace hown := Lib.hid hown
  replace hm := Lib.hid hm
  replace hnn := Lib.hid hnn
  go_enter Try.func20, Try.ntmps20
  go_wp2_with (fail)
  go_loopw [7] (fun x wr => ∃ j : Nat, x = .int .i64 ((j : Int) - 1) ∧ j ≤ n ∧ doFrom (X.map Prod.fst) n = doFrom (X.map Prod.fst) j ∧ wr = w) (fun x _ => (intOf x + 1).toNat)
  case atStart => exact ⟨n, rfl, Nat.le_refl _, rfl, rfl⟩
  case round =>
    obtain ⟨j, hx, hj, hd, rfl⟩ := hrel
    clear e1
    by_cases hj0 : j = 0
    · subst hj0
      have e0 : u7 = .int .i64 (-1) := by rw [hx]; rfl
      subst e0
      clear hx
      replace hd := Lib.hid hd
      go_wp2_with (fail)
      go_returns
      exact .inl ⟨hd.out, rfl, rfl⟩
    · obtain ⟨i, rfl⟩ : ∃ i, j = i + 1 := ⟨j - 1, by omega⟩
      have e0 : u7 = .int .i64 (i : Int) := by rw [hx]; congr 1; omega
      subst e0
      clear hx hj0
      have hjX : i < X.length := by rw [hnn.out]; omega
      obtain ⟨x, hxx⟩ : ∃ x, X[i]? = some x := ⟨_, List.getElem?_eq_getElem hjX⟩
      have hA' := hA.out (by omega)
      subst hA'
      have hR0 := hR.out
      have hT := hR0.tp i x hxx
      have t0 := hT.c0
      have t3 := hT.c3
      have j0 : (0 : Int) ≤ i := by omega
      have j1 : (i : Int) < n := by omega
      have hL := lay_any h.out (by simp) 10 0 y hy.out
      have hk : (X.map Prod.fst).getD i ⟨0, 0, 0, []⟩ = x.1 := by
        rw [List.getD_eq_getElem?_getD, List.getElem?_map, hxx]; rfl
      replace hd := Lib.hid hd
      replace hxx := Lib.hid hxx
      replace hR0 := Lib.hid hR0
      replace hT := Lib.hid hT
      replace hjX := Lib.hid hjX
      replace hL := Lib.hid hL
      by_cases h4 : x.1.k = 4
      · have hw : kn x.1.k = ⟨#[68, 79]⟩ := (kn_do _).2 h4
        rw [hw] at t0
        have hdo : doFrom (X.map Prod.fst) n = some i := by rw [hd.out, doFrom, hk, if_pos h4]
        replace hdo := Lib.hid hdo
        clear hd hk h4
        replace hw := Lib.hid hw
        go_wp2_with (fail)
        refine hL.out.mono ?_
        rintro e w1 ⟨rfl, v1, hW1, hB1⟩
        have hR1 := Lib.hid (hR0.out.frame (Onl.of_below (s := fun k => b ≤ k) hB1 (fun k _ hk => by omega)) (fun k hk => by have := hown.out k hk; omega))
        have hz1 : b ≤ w1.heap.size := by have := hW1.bk.lt; omega
        obtain ⟨A', c', w2, hrun, hgr, hT2, hR2, hO2⟩ := (show Rws w1.drew own _ _ from hR1.out.frame (s := fun _ => False) ⟨rfl, rfl, rfl, Nat.le_refl _, fun _ _ _ => rfl⟩ (fun _ _ h => h)).grow i x hxx.out y (hm.out x (List.mem_of_getElem? hxx.out)) (B := b) hz1
        have hT1 := hR1.out.tp i x hxx.out
        have a2 : w1.cell? ⟨b, 2, none⟩ = some (.int .i64 y) := hW1.bk.cell 2
        have a3 := hT1.c3
        have b2 : (w1.alloc (.cells #[.int .i64 y] 3)).cell? ⟨b, 2, none⟩ = some (.int .i64 y) := (hW1.bk.past _).cell 2
        have hgl : g < w1.heap.size := by
          have := (hR1.out.row.lt g rfl).2; exact this
        have hT3 : Tp (w1.alloc (.cells #[.int .i64 y] 3)) g (i * 4) (kn x.1.k) x.1.at_ x.1.tgt x.2 := hT1.bel (Below.alloc (Below.refl w1.heap.size w1) (Nat.le_refl _) _) hgl
        have b3 := hT3.c3
        have a2' : w2.cell? ⟨g, i * 4 + 3, none⟩ = some x.2 := hT2.c3
        have a3' : w2.frozen? ⟨g, i * 4 + 3, none⟩ = false := hT2.fr _
        have hWW : Wk (w2.setCell ⟨g, i * 4 + 3, none⟩ (.slice A' (x.1.more.length + 1) c')) b v1 ([] ++ [⟨false, here, 10, 0⟩]) here y T n0 n1 n2 n3 := hW1.onl (s := own) ⟨hO2.os, hO2.tape, hO2.output, hO2.size, hO2.block⟩ (fun k hk => hown.out k hk)
        have hL2 := lay_onl hWW (by simp) 4 0 y2 hy2.out
        have hlm : (x.1.more.length : Int) ≤ 100000 := by have := hm.out x (List.mem_of_getElem? hxx.out); omega
        obtain ⟨Am, cm, hxm⟩ := own_form (hR0.out.more x (List.mem_of_getElem? hxx.out))
        obtain ⟨nx, hnx⟩ : ∃ nx, x.1.more.length + 1 = nx := ⟨_, rfl⟩
        rw [hnx] at hrun hR2 hO2 hL2 hWW
        obtain ⟨xm, hxmm⟩ : ∃ xm, x.2 = xm := ⟨_, rfl⟩
        rw [hxmm] at hrun a3 b3 a2' t3
        clear hT1 hT2 hT3 hgr t3
        replace hrun := Lib.hid hrun
        replace hR2 := Lib.hid hR2
        replace hO2 := Lib.hid hO2
        replace hL2 := Lib.hid hL2
        replace hWW := Lib.hid hWW
        replace hW1 := Lib.hid hW1
        replace hB1 := Lib.hid hB1
        replace hgl := Lib.hid hgl
        replace hz1 := Lib.hid hz1
        replace hnx := Lib.hid hnx
        replace hxmm := Lib.hid hxmm
        replace hxm := Lib.hid hxm
        replace hlm := Lib.hid hlm
        go_wp2_with (fail)
        go_region_law (refine step_append_run rfl (.tmp 84) (.tmp 89) 32 rfl xm _ _ rfl rfl hrun.out ?_)
        all_goals (go_wp2_with (fail))
        all_goals (refine hL2.out.mono ?_)
        all_goals (
          rintro e w4 ⟨rfl, v4, hW4, hB4, hO4⟩
          replace hW4 := Lib.hid hW4
          replace hB4 := Lib.hid hB4
          go_wp2_with (fail)
          go_returns
          refine .inr ⟨i, x, v4, .slice A' nx c', hdo.out, hxx.out, rfl, hW4.out, ?_, ?_⟩
          · refine hR2.out.far hO4 hWW.out.row (fun k hk => ?_)
            rcases hk with rfl | hk
            · exact .inl ⟨_, hWW.out.bk⟩
            · exact .inr hk
          · refine (((Onl.of_below (s := fun k => own k ∨ b ≤ k) hB1.out (fun k _ hn => by have : ¬ b ≤ k := fun h => hn (.inr h); omega)).draw).trans ((show Onl own w1.drew _ from hO2.out).grow (fun k _ hk => .inl hk))).trans (Onl.of_below hB4.out (fun k _ hn => by have : ¬ b ≤ k := fun h => hn (.inr h); omega)))
      · replace hk := Lib.hid hk
        have hwd : ((kn x.1.k).toList == [68, 79]) = false := by
          rw [beq_eq_false_iff_ne]
          intro e
          refine h4 ((kn_do _).1 ?_)
          have : (⟨#[68, 79]⟩ : ByteArray).toList = [68, 79] := by decide +kernel
          rw [← this, ByteArray.toList_eq, ByteArray.toList_eq] at e
          exact ByteArray.ext (Array.ext' e)
        obtain ⟨wd, hwdd⟩ : ∃ wd, kn x.1.k = wd := ⟨_, rfl⟩
        rw [hwdd] at hwd t0
        have e1 : IntKind.i64.wrap ((i : Int) - 1) = (i : Int) - 1 := by rw [IntKind.wrap_i64]; omega
        have hdo : doFrom (X.map Prod.fst) n = doFrom (X.map Prod.fst) i := by rw [hd.out, doFrom, hk.out, if_neg h4]
        replace hdo := Lib.hid hdo
        clear h4 t3 hd
        replace hwdd := Lib.hid hwdd
        go_wp2_with (fail)
        exact ⟨⟨i, rfl, by omega, hdo.out, trivial⟩, by simp [intOf]⟩
end
end Go.Proofs.Ytmfffaocmboelaa
