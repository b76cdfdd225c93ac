import Derived.Test.YtoaiiimnfgbcaaaRdJ
import Derived.Sort.CutIn
import Derived.Stop.RegionWithIn
namespace Go.Proofs.Ytoaiiimnfgbcaaa
open Go.RowKit Go.Shelf
attribute [local go_sem] Oper.semAt_some
attribute [local go_sem high] run_eqW1 run_eqW2
set_option linter.unusedVariables false
set_option linter.unusedSimpArgs false
/-! chapter 8: law's words: a range over the program's list, held against a row of words -/
structure Iq (w : World) (K lb q cx d p b : Nat) (A : Option Addr) (c : Nat) (X : List Wd) (L : Lay) (r f y : Nat) (B : List UInt8) (o s : Bool) (h l K0 : Nat) (pre : List NW) (W : World) : Prop where
  pfx : pre.map (·.1) <+: X
  cnt : Bk W cx 3 #[.int .i64 (pre.length : Int)]
  lst : Bk W lb 49 #[.slice A X.length c]
  row : W.ownsRow K 34 6 (.slice A X.length c) X.length (wdsC X)
  res : Bk W q 4 #[.bool false]
  bel : Below w.heap.size w W
  dc : Dc W d p b L r f y B o s h l
  lo : K0 ≤ W.heap.size
section
variable {w W W' : World} {K lb q cx d p b : Nat} {A : Option Addr} {c : Nat} {X : List Wd} {L : Lay} {r f y : Nat} {B : List UInt8} {o s : Bool} {h l K0 : Nat} {pre : List NW}
theorem Iq.own (K1 : Nat) (hK : w.heap.size ≤ K1) : OwnFrom K1 (Iq w K lb q cx d p b A c X L r f y B o s h l K0) := fun s A A' row hs hg hr => by
  have hr2 := fun r e => (hr r e).2
  exact ⟨hs.pfx, own_bk _ _ _ s A A' row hs.cnt hg hr2, own_bk _ _ _ s A A' row hs.lst hg hr2, own_row _ _ _ _ _ _ s A A' row hs.row hg hr2, own_bk _ _ _ s A A' row hs.res hg hr2, ownFrom_below (Nat.le_refl _) hK s A A' row hs.bel hg hr, own_dc _ _ _ _ _ _ _ _ _ _ _ _ s A A' row hs.dc hg hr2, Nat.le_trans hs.lo hg.size⟩
theorem Iq.kept (hs : Iq w K lb q cx d p b A c X L r f y B o s h l K0 pre W) (hb : Below W.heap.size W W') : Iq w K lb q cx d p b A c X L r f y B o s h l K0 pre W' :=
  ⟨hs.pfx, hs.cnt.kept hb hs.cnt.lt, hs.lst.kept hb hs.lst.lt, own_below hs.row hb (Nat.le_refl _), hs.res.kept hb hs.res.lt, hs.bel.trans (hb.mono hs.bel.size), hs.dc.bel hb, Nat.le_trans hs.lo hb.size⟩
theorem Iq.put (hs : Iq w K lb q cx d p b A c X L r f y B o s h l K0 pre W) (hc : w.heap.size ≤ cx) (x : NW) (hx : (pre ++ [x]).map (·.1) <+: X) : Iq w K lb q cx d p b A c X L r f y B o s h l K0 (pre ++ [x]) (W.setCell ⟨cx, 0, none⟩ (.int .i64 ((pre.length + 1 : Nat) : Int))) := by
  have n1 := hs.cnt.ne hs.lst (by decide)
  have n2 := hs.cnt.ne hs.res (by decide)
  have e3 : pre.length + 1 = (pre ++ [x]).length := by simp
  refine ⟨hx, by rw [← e3]; exact hs.cnt.put 0 _, hs.lst.other (p := ⟨cx, 0, none⟩) n1.symm _, ?_, hs.res.other (p := ⟨cx, 0, none⟩) n2.symm _, hs.bel.setCell (p := ⟨cx, 0, none⟩) hc _, ?_, by rw [World.size_setCell]; exact hs.lo⟩
  · exact Onb.row (b := cx) (d := cx) (Onb.ofd ((Only.refl cx W).put 0 _)) hs.row (row_ne hs.row hs.cnt (by decide)) (row_ne hs.row hs.cnt (by decide))
  · exact hs.dc.far (q := ⟨cx, 0, none⟩) (hs.cnt.ne hs.dc.im.st (by decide)).symm (hs.cnt.ne hs.dc.im.by_ (by decide)).symm (hs.cnt.ne hs.dc.bk (by decide)).symm _
theorem row_cell2 {m : Nat} (hs : W.ownsRow K 34 6 (.slice A X.length c) X.length (wdsC X)) {z : Wd} (hz : X[m]? = some z) : ∃ gq, A = some ⟨gq, 0, none⟩ ∧ ∀ j, j < 6 → W.cell? ⟨gq, m * 6 + j, none⟩ = (wdC z)[j]? := by
  obtain ⟨hlt, hzz⟩ := List.getElem?_eq_some_iff.1 hz
  obtain ⟨gq, rfl⟩ : ∃ gq, A = some ⟨gq, 0, none⟩ := by
    rcases hs.2 with ⟨_, h0⟩ | ⟨q, cap, cur, e, _⟩
    · omega
    · injection e with e1 _ _; exact ⟨q, e1⟩
  refine ⟨gq, rfl, fun j hj => ?_⟩
  rw [hs.cellAt _ (by omega)]
  exact wdsC_at X m z hz j hj
end

theorem eql_nilfunc (fn : Fn) (ts : Array Value) (vs : Array Value) (w : World) : (binOp .eql 44 (.func fn ts vs) .nilFunc).run Try.prog w = .ok (.bool false) w := by
  first
  | kernel_rfl
  | rfl
set_option maxHeartbeats 4000000 in
set_option maxRecDepth 100000 in
theorem words_any {w : World} {d p b r f y h l : Nat} {L : Lay} {B : List UInt8} {o s : Bool} (D : Dc w d p b L r f y B o s h l) (X : List Wd) (hwk : walkP B f y l = X) (A : Option Addr) (c K : Nat) (hrow : w.ownsRow K 34 6 (.slice A X.length c) X.length (wdsC X)) :
    Calls Try.prog 23 #[.pointer (some ⟨d, 0, none⟩), .slice A X.length c] w fun e w' => e = .returned (.bool true) ∧ Below w.heap.size w w' := by
  have hX1 : X.length ≤ 1000000 := by
    rw [← hwk]
    have := walkP_len B f y l D.ok.2.2.1
    have := D.la
    have := D.ok
    omega
  refine (callsIn_wide (n := 6)).1 ?_
  refine callsIn_of_wp_marks Try.func23 rfl trivial ?_ rfl
  simp only [Try.ntmps23, List.size_toArray, List.length_cons, List.length_nil, Nat.reduceAdd, Nat.reduceSub, Array.replicate_succ, Array.replicate_zero, List.push_toArray, List.append_toArray, List.nil_append, List.cons_append]
  gi_wp2_with (fail)
  refine ⟨trivial, ?_⟩
  refine (callsIn_wide.2 (all_any d _)).mono ?_
  rintro e w1 ⟨rfl, hw1⟩
  obtain ⟨nb, hnb⟩ : ∃ nb, w.heap.size = nb := ⟨_, rfl⟩
  have a1 := Bk.fresh w 49 #[.slice A X.length c]
  have a2 := Bk.fresh (w.alloc (.cells #[.slice A X.length c] 49)) 4 #[.bool false]
  have a3 := Bk.fresh ((w.alloc (.cells #[.slice A X.length c] 49)).alloc (.cells #[.bool false] 4)) 30 #[.pointer (some ⟨d, 0, none⟩)]
  have hBw : Below w.heap.size w w1 := by rw [hw1]; exact (((Below.refl _ _).alloc (Nat.le_refl _) _).alloc (by simp) _).alloc (by simp; omega) _
  rw [← hw1] at a3
  have a1 : Bk w1 nb 49 #[.slice A X.length c] := by rw [← hnb, hw1]; exact (a1.past _).past _
  have a2 : Bk w1 (nb + 1) 4 #[.bool false] := by rw [← hnb, hw1]; have := a2.past (.cells #[.pointer (some ⟨d, 0, none⟩)] 30); simpa using this
  have a3 : Bk w1 (nb + 2) 30 #[.pointer (some ⟨d, 0, none⟩)] := by rw [← hnb]; simpa using a3
  have hz1 : w1.heap.size = nb + 3 := by rw [hw1, ← hnb]; simp
  have D1 := D.bel hBw
  have hrow1 := own_below hrow hBw (Nat.le_refl _)
  try rw [show w.heap.size + 1 + 1 = nb + 2 by omega, show w.heap.size + 1 = nb + 1 by omega, hnb]
  clear hw1
  have hnil := fun fn ts vs w => eql_nilfunc fn ts vs w
  gi_wp2_with (fail)
  clear hnil
  have b1 := a1.past (.cells #[.int .i64 0] 3)
  have b2 := a2.past (.cells #[.int .i64 0] 3)
  have b3 := a3.past (.cells #[.int .i64 0] 3)
  have b4 := Bk.fresh w1 3 #[.int .i64 0]
  have hB2 : Below w.heap.size w (w1.alloc (.cells #[.int .i64 0] 3)) := hBw.alloc hBw.size _
  have D2 := D.bel hB2
  have hrow2 := own_below hrow hB2 (Nat.le_refl _)
  have hnw : w.heap.size ≤ nb := Nat.le_of_eq hnb
  obtain ⟨w2, hw2⟩ : ∃ w2, w1.alloc (.cells #[.int .i64 0] 3) = w2 := ⟨_, rfl⟩
  rw [hw2] at b1 b2 b3 b4 hB2 D2 hrow2
  obtain ⟨cx, hcx⟩ : ∃ cx, w1.heap.size = cx := ⟨_, rfl⟩
  rw [hcx] at b4 hz1
  have hcw : w.heap.size ≤ cx := by omega
  have hcl : cx < w2.heap.size := b4.lt
  have h2w := hB2.size
  have hI2 : Iq w K nb (nb + 1) cx d p b A c X L r f y B o s h l w2.heap.size [] w2 := ⟨List.nil_prefix, b4, b1, hrow2, b2, hB2, D2, Nat.le_refl _⟩
  have hqw : w.heap.size ≤ nb + 1 := by omega
  have hqw2 : nb + 1 < w2.heap.size := b2.lt
  try rw [hcx]
  try rw [hw2]
  clear hw2 a1 a2 a3 D1 hrow1 hBw hcx
  subst hz1
  refine range_all 6 13 7 (nb + 2) (by decide) (fun i => i = nb + 3) (fun i e => by rw [e]; exact hcl) rfl rfl D2 b3 (Iq w K nb (nb + 1) (nb + 3) d p b A c X L r f y B o s h l w2.heap.size) (fun c pre W => c = .ret ∧ ¬ pre.map (·.1) <+: X) (Iq.own _ h2w) (fun c => ownFrom_pure _ _) hI2 ?assign ?body ?done ?stop
  case assign =>
    rintro l pre x W K hi hK
    have r0 := Bk.fresh W 34 (wdC wd0).toArray
    have hBa : Below W.heap.size W (W.alloc (.cells (wdC wd0).toArray 34)) := (Below.refl _ _).alloc (Nat.le_refl _) _
    obtain ⟨g, hg⟩ : ∃ g, W.heap.size = g := ⟨_, rfl⟩
    obtain ⟨V, hV⟩ : ∃ V, W.alloc (.cells (wdC wd0).toArray 34) = V := ⟨_, rfl⟩
    rw [hV] at r0 hBa
    rw [hg] at r0
    have hV' : W.alloc (.cells #[.string ⟨#[]⟩, .int .i64 0, .int .i64 0, .bool false, .bool false, .bool false] 34) = V := hV
    have hB6 : Below W.heap.size W (set6 V g x.1) := set6_below hBa (by omega)
    have hKK := hK g (set6 V g x.1) (by rw [← hg]; exact hi.lo) (set6_bk (y := x.1) r0) (KeepsFrom.of_grownBy (grown_below hB6) (by simp)) (Kc.of_below hB6) (hi.kept hB6)
    have e0 := r0.cell 0
    have e1 := r0.cell 1
    have e2 := r0.cell 2
    have e3 := r0.cell 3
    have e4 := r0.cell 4
    have e5 := r0.cell 5
    simp [wdC, wd0] at e0 e1 e2 e3 e4 e5
    have f0 := r0.free 0
    have f1 := r0.free 1
    have f2 := r0.free 2
    have f3 := r0.free 3
    have f4 := r0.free 4
    have f5 := r0.free 5
    unfold set6 at hKK
    replace hKK := Lib.hid hKK
    clear hV hB6 hBa r0 hK hi
    simp only [wdV, List.setIfInBounds_toArray, List.set_cons_zero, List.set_cons_succ] at hKK ⊢
    gi_wp2
    exact hKK.out
  case body =>
    rintro l' pre x Bx W hl hBx bX hi hlt
    rw [hwk] at hlt
    obtain ⟨yy, hyy⟩ : ∃ yy, X[pre.length]? = some yy := ⟨_, List.getElem?_eq_getElem hlt⟩
    have hPs := pre_snoc hi.pfx x
    have hno := not_pre x hyy
    obtain ⟨gq, hA2, hcell⟩ := row_cell2 hi.row hyy
    have hX2 : X.length ≤ 9223372036854775807 := Nat.le_trans hX1 (by decide)
    obtain ⟨j, hj⟩ : ∃ j, pre.length = j := ⟨_, rfl⟩
    rw [hj] at hcell hlt
    have hjI : (j : Int) < X.length := by omega
    have hjI2 : ¬ (j : Int) ≥ X.length := by omega
    have hj0 : (0 : Int) ≤ j := by omega
    have hj00 : ¬ (j : Int) < 0 := by omega
    have w1 : IntKind.i64.wrap ((j : Int) + 1) = ((j + 1 : Nat) : Int) := by rw [IntKind.wrap_i64]; omega
    have c0 := hi.cnt.cell 0
    simp at c0
    rw [hj] at c0
    have c1 := hi.cnt.free 0
    have s0 := hi.lst.cell 0
    simp at s0
    rw [hA2] at s0
    have r6 := hi.res.cell 0
    simp at r6
    have r7 := hi.res.free 0
    have b0 := bX.cell 0
    have b1 := bX.cell 1
    have b2 := bX.cell 2
    have b3 := bX.cell 3
    have b4 := bX.cell 4
    have b5 := bX.cell 5
    simp [wdC] at b0 b1 b2 b3 b4 b5
    have z0 : W.cell? ⟨gq, j * 6, none⟩ = some (.string yy.name) := hcell 0 (by omega)
    have z1 : W.cell? ⟨gq, j * 6 + 1, none⟩ = some (.int .i64 yy.hd) := hcell 1 (by omega)
    have z2 : W.cell? ⟨gq, j * 6 + 2, none⟩ = some (.int .i64 yy.xt) := hcell 2 (by omega)
    have z3 : W.cell? ⟨gq, j * 6 + 3, none⟩ = some (.bool yy.imm) := hcell 3 (by omega)
    have z4 : W.cell? ⟨gq, j * 6 + 4, none⟩ = some (.bool yy.hid) := hcell 4 (by omega)
    have z5 : W.cell? ⟨gq, j * 6 + 5, none⟩ = some (.bool yy.inl) := hcell 5 (by omega)
    obtain ⟨bb, hbb⟩ : ∃ bb, eqW ⟨x.1.name, x.1.hd, x.1.xt, x.1.imm, x.1.hid, x.1.inl⟩ ⟨yy.name, yy.hd, yy.xt, yy.imm, yy.hid, yy.inl⟩ = bb := ⟨_, rfl⟩
    simp only [wdV, List.setIfInBounds_toArray, List.set_cons_zero, List.set_cons_succ]
    obtain ⟨K2, hK2⟩ : ∃ K2, w2.heap.size = K2 := ⟨_, rfl⟩
    rw [hK2] at hi ⊢
    have hiH := Lib.hid hi
    replace hPs := Lib.hid hPs
    replace hno := Lib.hid hno
    replace hj := Lib.hid hj
    replace hyy := Lib.hid hyy
    clear hi hcell hlt bX hX2 hA2 hK2 hI2 hqw hqw2 hcl h2w
    cases bb
    all_goals
      gi_upto_region 7 with (fail)
      refine region_round rfl (by kernel_rfl) (by kernel_rfl) (by kernel_rfl) ?_
      repeat (gi_big_quiet_step (fail))
      refine wpQuietIn_nil ?_
      rintro _ ⟨nq, rfl⟩
      have hKF : KeepsOthers W (W.drewN nq) := ⟨Nat.le_refl _, fun k o hk _ => hk⟩
      have hKC := Kc.of_below (X := fun i => i = nb + 3) (below_drawn (Below.refl _ W) nq)
      replace hKF := Lib.hid hKF
      replace hKC := Lib.hid hKC
      gi_wp2_with (fail)
      first
      | exact ⟨(hKF.out.trans (KeepsOthers.setCell _ _ _)).from _, rfl, hno.out (fun e => by
          have := (eqW_iff _ _).2 e
          rw [show eqW x.1 yy = false from hbb] at this
          cases this)⟩
      | (have h9 := (hiH.out.kept (below_drawn (Below.refl _ W) nq)).put hcw x (hPs.out (by rw [hyy.out]; exact congrArg some ((eqW_iff _ _).1 hbb).symm))
         have e9 : ((j + 1 : Nat) : Int) = (j : Int) + 1 := by omega
         rw [hj.out, e9] at h9
         exact ⟨(hKF.out.trans (KeepsOthers.setCell _ _ _)).from _, hKC.out.t (Kc.of_set (nb + 3) (q := ⟨nb + 3, 0, none⟩) _ rfl), h9⟩)
  case done =>
    rintro D' ys W hD hys hi hW
    have hyl : ys.length = X.length := by rw [← hwk, ← hys, List.length_map]
    have c0 := hi.cnt.cell 0
    simp at c0
    rw [hyl] at c0
    have r6 := hi.res.cell 0
    simp at r6
    have r7 := hi.res.free 0
    have l0c := hi.lst.cell 0
    simp at l0c
    have hqD : nb + 1 < D' := Nat.lt_of_lt_of_le hqw2 hD
    have hDw : w.heap.size ≤ D' := Nat.le_trans h2w hD
    replace hi := Lib.hid hi
    replace hW := Lib.hid hW
    clear hI2 hcl
    gi_wp2_with (fail)
    have k1 := hi.out.res.put 0 (.bool true)
    have hW' := (KeepsOthers.setCell W ⟨nb + 1, 0, none⟩ (.bool true)).same D' _ hW.out rfl
    have hBz := (hi.out.bel.setCell (p := ⟨nb + 1, 0, none⟩) hqw (.bool true)).trans (belowK_b (w := w) (Nat.le_refl _) _ D' (.deferred (some [])) (.deferred none) hDw hW' rfl rfl)
    have z1 := k1.grown (grownBy_putObj' _ D' (.deferred none)) (by simp; omega)
    have y0 := z1.cell 0
    simp at y0
    refine ⟨by simp, .inl ⟨_, _, rfl, run_takeDeferred hW', ?_⟩⟩
    refine ⟨_, ?_, rfl, hBz⟩
    simp [results, Try.f23, go_sem, y0]
  case stop =>
    rintro D' c pre W hD hpre ⟨rfl, hno⟩ hW
    exact (hno (by rw [← hwk]; exact hpre)).elim
end Go.Proofs.Ytoaiiimnfgbcaaa
