import Derived.Test.YtmfffaocmboelaaFwG
namespace Go.Proofs.Ytmfffaocmboelaa
open Go.RowKit
set_option linter.unusedVariables false
set_option linter.unusedSimpArgs false
/-! ENDOF; what a word wants; the words that branch does not know -/
section
variable {w w' : World} {b g o : Nat} {here behind y y2 y3 y4 : Int} {T : Addr} {n0 n1 n2 n3 v m V : Value} {l : List Ac} {word : ByteArray} {at_ tg : Int} {own : Nat → Prop} {X : List (Th × Value)}
set_option maxHeartbeats 2000000 in
set_option maxRecDepth 100000 in
theorem ct_endof {c i : Nat} {x : Th × Value} (h : Wk w b (.slice none 0 0) [] here here ⟨g, o, none⟩ n0 n1 n2 n3) (hT : Tp w g o word at_ tg m) (hg : g < b) (hy : IntKind.i64.wrap (here + 8) = y) (hR : Rws w own (.slice (some ⟨g, 0, none⟩) X.length c) X) (hn : X.length = i + 2) (hi : i ≤ 1000) (hxx : X[i]? = some x) (hm : x.1.more.length ≤ 100000) (hown : ∀ k, own k → k < b) :
    Calls Try.prog 20 #[.pointer (some ⟨b, 0, none⟩), .string ⟨#[69, 78, 68, 79, 70]⟩, .slice (some ⟨g, 0, none⟩) X.length c] w fun e w' => e = .returned (.int .i64 4) ∧ ∃ v' m', Wk w' b v' [⟨false, here, 4, 0⟩, ⟨true, at_, 0, y⟩] here y ⟨g, o, none⟩ n0 n1 n2 n3 ∧
        Rws w' (fun k => own k ∨ b ≤ k) (.slice (some ⟨g, 0, none⟩) (X.set i (x.1.plus here, m')).length c) (X.set i (x.1.plus here, m')) ∧ Onl (fun k => own k ∨ b ≤ k) w w' := by
  have hL := lay_any h (Nat.zero_le _) 4 0 y hy
  obtain ⟨n, hnn⟩ : ∃ n, X.length = n := ⟨_, rfl⟩
  rw [hnn] at hn ⊢
  have e1 : IntKind.i64.wrap ((n : Int) - 2) = (i : Int) := by rw [IntKind.wrap_i64]; omega
  have i1 : (n : Int) ≤ 1002 := by omega
  have j0 : (0 : Int) ≤ i := by omega
  have j1 : (i : Int) < n := by omega
  replace hL := Lib.hid hL
  replace hT := Lib.hid hT
  replace hg := Lib.hid hg
  replace hR := Lib.hid hR
  replace hown := Lib.hid hown
  replace hm := Lib.hid hm
  replace hnn := Lib.hid hnn
  replace hn := Lib.hid hn
  replace hi := Lib.hid hi
  replace hxx := Lib.hid hxx
  replace hy := Lib.hid hy
  clear h
  go_enter Try.func20, Try.ntmps20
  go_wp2_with (go_at_call 28; refine hL.out.mono ?_; rintro e w1 ⟨rfl, v', hW, hB⟩; have c1 := hW.bk.cell 1; have c2 := hW.bk.cell 2; have c3 := hW.bk.cell 3; have c4 := hW.bk.cell 4; have c5 := hW.bk.cell 5; have c6 := hW.bk.cell 6; have c7 := hW.bk.cell 7; have d4 := hW.bk.free 4; have d5 := hW.bk.free 5; have d6 := hW.bk.free 6; have d7 := hW.bk.free 7; simp at c1 c2 c3 c4 c5 c6 c7; replace hW := Lib.hid hW; replace hB := Lib.hid hB)
  clear c1 c4 c5 c6 c7 d4 d5 d6 d7
  have hP := patch_one hW.out (by simp) at_ y
  have hTp := hT.out.bel hB.out hg.out
  have t1 := hTp.c1
  have t2 := hTp.c2
  replace hP := Lib.hid hP
  replace hTp := Lib.hid hTp
  clear hL
  go_region_held3 (fun w' => w'.cell? ⟨b, 2, none⟩ = some (.int .i64 y) ∧ w'.cell? ⟨b, 3, none⟩ = some (.pointer (some ⟨g, o, none⟩)) ∧ w'.cell? ⟨g, o + 1, none⟩ = some (.int .i64 at_)) (go_keep)
    ((go_at_call 21; (with_reducible refine Calls.mono hP.out ?_); rintro e w1_ ⟨rfl, v2, hW2, hB2⟩; have kS : w1_.cell? ⟨b, 2, none⟩ = some (.int .i64 y) ∧ w1_.cell? ⟨b, 3, none⟩ = some (.pointer (some ⟨g, o, none⟩)) ∧ w1_.cell? ⟨g, o + 1, none⟩ = some (.int .i64 at_) := ⟨hW2.bk.cell 2, hW2.bk.cell 3, (hTp.out.bel hB2 hg.out).c1⟩; replace hW2 := Lib.hid hW2; replace hB2 := Lib.hid hB2))
  all_goals (
    have hB3 := hB.out.trans hB2.out
    have hR1 := Lib.hid (hR.out.frame (Onl.of_below (s := fun k => b ≤ k) hB3 (fun k _ hk => by omega)) (fun k hk => by have := hown.out k hk; omega))
    replace hB3 := Lib.hid hB3
    obtain ⟨w3, hw3⟩ : ∃ w3, w1_ = w3 := ⟨_, rfl⟩
    rw [hw3] at hW2 hR1 hB3 ⊢
    clear hw3 hB2 t1 t2 c2 c3
    have hz1 : b ≤ w3.heap.size := by have := hW2.out.bk.lt; omega
    obtain ⟨A', c', w2, hrun, hgr, hT2, hR2, hO2⟩ := (show Rws w3.drew own _ _ from hR1.out.frame (s := fun _ => False) ⟨rfl, rfl, rfl, Nat.le_refl _, fun _ _ _ => rfl⟩ (fun _ _ h => h)).grow i x hxx.out here hm.out (B := b) hz1
    have hT1 := hR1.out.tp i x hxx.out
    have a1 : w3.cell? ⟨b, 1, none⟩ = some (.int .i64 here) := hW2.out.bk.cell 1
    have a3 := hT1.c3
    have b1 : (w3.alloc (.cells #[.int .i64 here] 3)).cell? ⟨b, 1, none⟩ = some (.int .i64 here) := (hW2.out.bk.past _).cell 1
    have hgl : g < w3.heap.size := (hR1.out.row.lt g rfl).2
    have hT3 : Tp (w3.alloc (.cells #[.int .i64 here] 3)) g (i * 4) (kn x.1.k) x.1.at_ x.1.tgt x.2 := hT1.bel (Below.alloc (Below.refl w3.heap.size w3) (Nat.le_refl _) _) hgl
    have b3 := hT3.c3
    have a3' : w2.cell? ⟨g, i * 4 + 3, none⟩ = some x.2 := hT2.c3
    have a3'' : w2.frozen? ⟨g, i * 4 + 3, none⟩ = false := hT2.fr _
    have hWW : Wk (w2.setCell ⟨g, i * 4 + 3, none⟩ (.slice A' (x.1.more.length + 1) c')) b v2 ([⟨false, here, 4, 0⟩] ++ [⟨true, at_, 0, y⟩]) here y ⟨g, o, none⟩ n0 n1 n2 n3 := hW2.out.onl (s := own) ⟨hO2.os, hO2.tape, hO2.output, hO2.size, hO2.block⟩ (fun k hk => hown.out k hk)
    have hlm : (x.1.more.length : Int) ≤ 100000 := by have := hm.out; omega
    obtain ⟨Am, cm, hxm⟩ := own_form (hR1.out.more x (List.mem_of_getElem? hxx.out))
    obtain ⟨nx, hnx⟩ : ∃ nx, x.1.more.length + 1 = nx := ⟨_, rfl⟩
    rw [hnx] at hrun hR2 hO2 hWW
    obtain ⟨xm, hxmm⟩ : ∃ xm, x.2 = xm := ⟨_, rfl⟩
    rw [hxmm] at hrun a3 b3 a3'
    clear hT1 hT2 hT3 hgr
    replace hrun := Lib.hid hrun
    replace hR2 := Lib.hid hR2
    replace hO2 := Lib.hid hO2
    replace hWW := Lib.hid hWW
    replace hW2 := Lib.hid hW2
    replace hgl := Lib.hid hgl
    replace hz1 := Lib.hid hz1
    replace hnx := Lib.hid hnx
    replace hxmm := Lib.hid hxmm
    replace hxm := Lib.hid hxm
    replace hlm := Lib.hid hlm)
  all_goals (go_wp2_with (fail))
  all_goals (go_region_law (refine step_append_run rfl (.tmp 146) (.tmp 151) 32 rfl xm _ _ rfl rfl hrun.out ?_))
  all_goals (go_wp2_with (fail))
  all_goals go_returns
  all_goals (
    refine ⟨rfl, v2, .slice A' nx c', hWW.out, hR2.out, ?_⟩
    exact (((Onl.of_below (s := fun k => own k ∨ b ≤ k) hB3.out (fun k _ hn => by have : ¬ b ≤ k := fun h => hn (.inr h); omega)).draw).trans ((show Onl own w3.drew _ from hO2.out).grow (fun k _ hk => .inl hk))))
end
end Go.Proofs.Ytmfffaocmboelaa
