import Derived.Test.YtbhgjjicmbbjaaaDoorTrZa
import Derived.Test.YtbhgjjicmbbjaaaDoorTrYb
namespace Go.Proofs.YtbhgjjicmbbjaaaDoor
open Go.RowKit
set_option linter.unusedVariables false
set_option linter.unusedSimpArgs false
/-! chapter 17, the document's Read -/
def lnV (f u pt : Int) (sd : Bool) (t : ByteArray) : Array Value := #[.int .i64 f, .int .i64 u, .int .i64 pt, .bool sd, .string t]
/-- the loop's box, the result's, nothing else -/
structure Lb (w : World) (x : Nat) (f u pt : Int) (sd : Bool) (t : ByteArray) (W : World) : Prop where
  res : Bk W w.heap.size 66 (lnV 0 0 0 false ⟨#[]⟩)
  box : Bk W x 66 (lnV f u pt sd t)
  far : w.heap.size < x
  bl : Below w.heap.size w W
section
variable {w W W' : World} {x : Nat} {f u pt : Int} {sd : Bool} {t : ByteArray}
theorem Lb.bel (h : Lb w x f u pt sd t W) (hb : Below W.heap.size W W') : Lb w x f u pt sd t W' := ⟨h.res.kept hb h.res.lt, h.box.kept hb h.box.lt, h.far, h.bl.trans (hb.mono h.bl.size)⟩
theorem Lb.put (h : Lb w x f u pt sd t W) (i : Nat) (v : Value) {f' u' pt' : Int} {sd' : Bool} {t' : ByteArray} (e : (lnV f u pt sd t).setIfInBounds i v = lnV f' u' pt' sd' t') : Lb w x f' u' pt' sd' t' (W.setCell ⟨x, i, none⟩ v) :=
  ⟨h.res.other (p := ⟨x, i, none⟩) (Nat.ne_of_lt h.far) _, by have := h.box.put i v; rw [e] at this; exact this, h.far, h.bl.setCell (p := ⟨x, i, none⟩) (Nat.le_of_lt h.far) _⟩
end
set_option maxRecDepth 100000 in
set_option maxHeartbeats 4000000 in
theorem rRead_pu (s : ByteArray) (hs : s.size ≤ 200000) (w : World) : Calls Tryd.prog 38 #[.string s, .bool false] w fun e w' => (∃ (f u : Int) (t : ByteArray), e = .returned (.agg #[.int .i64 f, .int .i64 u, .int .i64 0, .bool false, .string t]) ∧ LnPu s f u t) ∧ Below w.heap.size w w' := by
  have p1 := untB_size 32 s
  have p2 := untB_size 32 (untB 32 s).2.1
  have p3 := untB_size 32 (untB 32 (untB 32 s).2.1).2.1
  have hln := fun (f u : Int) (t : ByteArray) => lnPu_of (s := s) (f := f) (u := u) (t := t)
  have q1 := Lib.hid (fun W => runtil_any s (by omega) W)
  have q2 := Lib.hid (fun W => runtil_any (untB 32 s).2.1 (by omega) W)
  have q3 := Lib.hid (fun W => runtil_any (untB 32 (untB 32 s).2.1).2.1 (by omega) W)
  have q4 := Lib.hid (fun W => rnumber_any (untB 32 (untB 32 (untB 32 s).2.1).2.1).1 (by omega) W)
  have q5 := Lib.hid (fun W => rbare_any (untB 32 (untB 32 (untB 32 s).2.1).2.1).2.1 (by omega) W)
  obtain ⟨⟨U1a, U1b, U1c⟩, hU1⟩ : ∃ U, untB 32 s = U := ⟨_, rfl⟩
  simp only [hU1] at p1 p2 p3 hln q1 q2 q3 q4 q5
  obtain ⟨⟨U2a, U2b, U2c⟩, hU2⟩ : ∃ U, untB 32 U1b = U := ⟨_, rfl⟩
  simp only [hU2] at p2 p3 hln q2 q3 q4 q5
  obtain ⟨⟨U3a, U3b, U3c⟩, hU3⟩ : ∃ U, untB 32 U2b = U := ⟨_, rfl⟩
  simp only [hU3] at p3 hln q3 q4 q5
  replace hln := Lib.hid hln
  clear p1 p2 p3 hU1 hU2 hU3
  have hZ := Lib.hid (⟨Bk.fresh w 66 (lnV 0 0 0 false ⟨#[]⟩), (Below.refl _ _).alloc (Nat.le_refl _) _⟩ : Bk (w.alloc (.cells (lnV 0 0 0 false ⟨#[]⟩) 66)) w.heap.size 66 (lnV 0 0 0 false ⟨#[]⟩) ∧ Below w.heap.size w (w.alloc (.cells (lnV 0 0 0 false ⟨#[]⟩) 66)))
  go_enter Tryd.func38, Tryd.ntmps38
  go_wp2_with (fail)
  refine (q1.out _).mono ?_
  rintro e w1 ⟨rfl, hb⟩
  replace hZ := Lib.hid (⟨hZ.out.1.kept hb hZ.out.1.lt, hZ.out.2.trans (hb.mono hZ.out.2.size)⟩ : Bk w1 w.heap.size 66 (lnV 0 0 0 false ⟨#[]⟩) ∧ Below w.heap.size w w1)
  clear hb
  go_wp2_with (fail)
  refine (q2.out _).mono ?_
  rintro e w2_ ⟨rfl, hb⟩
  replace hZ := Lib.hid (⟨hZ.out.1.kept hb hZ.out.1.lt, hZ.out.2.trans (hb.mono hZ.out.2.size)⟩ : Bk w2_ w.heap.size 66 (lnV 0 0 0 false ⟨#[]⟩) ∧ Below w.heap.size w w2_)
  clear hb
  go_wp2_with (fail)
  refine (q3.out _).mono ?_
  rintro e w3 ⟨rfl, hb⟩
  replace hZ := Lib.hid (⟨hZ.out.1.kept hb hZ.out.1.lt, hZ.out.2.trans (hb.mono hZ.out.2.size)⟩ : Bk w3 w.heap.size 66 (lnV 0 0 0 false ⟨#[]⟩) ∧ Below w.heap.size w w3)
  clear hb
  go_wp2_with (fail)
  refine (q4.out _).mono ?_
  rintro e w4 ⟨⟨u, rfl, hN⟩, hb⟩
  replace hZ := Lib.hid (⟨hZ.out.1.kept hb hZ.out.1.lt, hZ.out.2.trans (hb.mono hZ.out.2.size)⟩ : Bk w4 w.heap.size 66 (lnV 0 0 0 false ⟨#[]⟩) ∧ Below w.heap.size w w4)
  replace hN := Lib.hid hN
  clear hb q1 q2 q3 q4
  go_wp2_with (fail)
  obtain ⟨x, hx⟩ : ∃ x, w4.heap.size = x := ⟨_, rfl⟩
  have hlt : w.heap.size < x := by rw [← hx]; exact hZ.out.1.lt
  have hL4 : Lb w x (-1) u 0 false ⟨#[]⟩ (w4.alloc (.cells (lnV (-1) u 0 false ⟨#[]⟩) 66)) :=
    ⟨hZ.out.1.past _, by rw [← hx]; exact Bk.fresh _ _ _, hlt, hZ.out.2.alloc hZ.out.2.size _⟩
  unfold lnV at hL4
  rw [hx]
  obtain ⟨X, hX⟩ : ∃ X, w4.alloc (.cells #[.int .i64 (-1), .int .i64 u, .int .i64 0, .bool false, .string ⟨#[]⟩] 66) = X := ⟨_, rfl⟩
  rw [hX] at hL4
  rw [hX]
  replace hL4 := Lib.hid hL4
  clear hX hx hZ hlt
  go_loopw [8] (fun x8 wr => ∃ (k : Nat) (F : Int), x8 = .int .i64 k ∧ k ≤ 22 ∧ Hid (FQ U2a k F ∧ Lb w x F u 0 false ⟨#[]⟩ wr)) (fun x8 _ => 22 - (intOf x8).toNat)
  case atStart => exact ⟨0, -1, rfl, by decide, Lib.hid ⟨FQ.zero _, hL4.out⟩⟩
  case round =>
    obtain ⟨k, F, rfl, hk, hQ⟩ := hrel
    clear hL4
    by_cases hlt : k < 22
    · have hlt' : (k : Int) < 22 := by omega
      have hwd := rword_any (k : Int) wr
      obtain ⟨S, hS⟩ : ∃ S, wordB (k : Int) = S := ⟨_, rfl⟩
      rw [hS] at hwd
      replace hwd := Lib.hid hwd
      replace hS := Lib.hid hS
      replace hlt := Lib.hid hlt
      by_cases he : S = U2a
      · have g1 : (S.toList == U2a.toList) = true := by rw [he]; simp
        have hF := FQ.yes (W := U2a) hlt.out (hS.out.trans he)
        replace he := Lib.hid he
        replace hF := Lib.hid hF
        go_wp2_with (fail)
        refine hwd.out.mono ?_
        rintro e w5 ⟨rfl, hb⟩
        have hZ := Lib.hid (hQ.out.2.bel hb)
        clear hb hQ hwd
        have c0 := hZ.out.box.cell 0
        have c1 := hZ.out.box.cell 1
        have c2 := hZ.out.box.cell 2
        have c3 := hZ.out.box.cell 3
        have c4 := hZ.out.box.cell 4
        have f0 := hZ.out.box.free 0
        have f1 := hZ.out.box.free 1
        have f2 := hZ.out.box.free 2
        have f3 := hZ.out.box.free 3
        have f4 := hZ.out.box.free 4
        simp [lnV] at c0 c1 c2 c3 c4
        go_wp2_with (fail)
        exact ⟨⟨k + 1, k, rfl, by have := hlt.out; omega, Lib.hid ⟨hF.out, hZ.out.put 0 _ rfl⟩⟩, by simp [intOf]; have := hlt.out; omega⟩
      · have g1 : (S.toList == U2a.toList) = false := by
          simp only [beq_eq_false_iff_ne, ne_eq]
          intro h
          rw [Lib.toList_data, Lib.toList_data] at h
          exact he (ba_ext h)
        have hF := hQ.out.1.no (by rw [hS.out]; exact he)
        replace he := Lib.hid he
        replace hF := Lib.hid hF
        go_wp2_with (fail)
        refine hwd.out.mono ?_
        rintro e w5 ⟨rfl, hb⟩
        have hZ := Lib.hid (hQ.out.2.bel hb)
        clear hb hQ hwd
        go_wp2_with (fail)
        exact ⟨⟨k + 1, F, rfl, by have := hlt.out; omega, Lib.hid ⟨hF.out, hZ.out⟩⟩, by simp [intOf]; have := hlt.out; omega⟩
    · have hlt' : ¬ (k : Int) < 22 := by omega
      obtain rfl : k = 22 := by omega
      have hF := Lib.hid hQ.out.1
      have hZ := Lib.hid hQ.out.2
      clear hQ hlt
      go_wp2_with (fail)
      refine (q5.out _).mono ?_
      rintro e w7 ⟨⟨t, rfl, ht⟩, hb⟩
      have hZ7 := hZ.out.bel hb
      replace hZ := Lib.hid hZ7
      replace ht := Lib.hid ht
      clear hb hZ7 q5
      have c0 := hZ.out.box.cell 0
      have c1 := hZ.out.box.cell 1
      have c2 := hZ.out.box.cell 2
      have c3 := hZ.out.box.cell 3
      have c4 := hZ.out.box.cell 4
      have f0 := hZ.out.box.free 0
      have f1 := hZ.out.box.free 1
      have f2 := hZ.out.box.free 2
      have f3 := hZ.out.box.free 3
      have f4 := hZ.out.box.free 4
      simp [lnV] at c0 c1 c2 c3 c4
      have hR := Lib.hid ((hZ.out.put 4 (.string t) rfl).res)
      have r0 := hR.out.cell 0
      have r1 := hR.out.cell 1
      have r2 := hR.out.cell 2
      have r3 := hR.out.cell 3
      have r4 := hR.out.cell 4
      have z0 := hR.out.free 0
      have z1 := hR.out.free 1
      have z2 := hR.out.free 2
      have z3 := hR.out.free 3
      have z4 := hR.out.free 4
      have hB7 := (hZ.out.put 4 (.string t) (f' := F) rfl).box
      have b0 := hB7.cell 0
      have b1 := hB7.cell 1
      have b2 := hB7.cell 2
      have b3 := hB7.cell 3
      have b4 := hB7.cell 4
      simp [lnV] at r0 r1 r2 r3 r4 b0 b1 b2 b3 b4
      clear hB7
      go_wp2_with (fail)
      have hS9 := ((((hR.out.put 0 (.int .i64 F)).put 1 (.int .i64 u)).put 2 (.int .i64 0)).put 3 (.bool false)).put 4 (.string t)
      have hB9 : Below w.heap.size w ((((((w7.setCell ⟨x, 4, none⟩ (.string t)).setCell ⟨w.heap.size, 0, none⟩ (.int .i64 F)).setCell ⟨w.heap.size, 1, none⟩ (.int .i64 u)).setCell ⟨w.heap.size, 2, none⟩ (.int .i64 0)).setCell ⟨w.heap.size, 3, none⟩ (.bool false)).setCell ⟨w.heap.size, 4, none⟩ (.string t)) :=
        (((((hZ.out.put 4 (.string t) (f' := F) rfl).bl.setCell (p := ⟨w.heap.size, 0, none⟩) (Nat.le_refl _) _).setCell (p := ⟨w.heap.size, 1, none⟩) (Nat.le_refl _) _).setCell (p := ⟨w.heap.size, 2, none⟩) (Nat.le_refl _) _).setCell (p := ⟨w.heap.size, 3, none⟩) (Nat.le_refl _) _).setCell (p := ⟨w.heap.size, 4, none⟩) (Nat.le_refl _) _
      obtain ⟨w9, hw9⟩ : ∃ w9, ((((((w7.setCell ⟨x, 4, none⟩ (.string t)).setCell ⟨w.heap.size, 0, none⟩ (.int .i64 F)).setCell ⟨w.heap.size, 1, none⟩ (.int .i64 u)).setCell ⟨w.heap.size, 2, none⟩ (.int .i64 0)).setCell ⟨w.heap.size, 3, none⟩ (.bool false)).setCell ⟨w.heap.size, 4, none⟩ (.string t)) = w9 := ⟨_, rfl⟩
      rw [hw9] at hS9 hB9
      rw [hw9]
      have r0 := hS9.cell 0
      have r1 := hS9.cell 1
      have r2 := hS9.cell 2
      have r3 := hS9.cell 3
      have r4 := hS9.cell 4
      simp [lnV] at r0 r1 r2 r3 r4
      refine bodyPost_ret (by simp [results, Tryd.results38, go_sem, r0, r1, r2, r3, r4]; rfl) rfl ?_
      exact ⟨⟨F, u, t, rfl, hln.out F u t hF.out hN.out ht.out⟩, hB9⟩
set_option maxRecDepth 100000 in
set_option maxHeartbeats 4000000 in
theorem rRead_pr (s : ByteArray) (hs : s.size ≤ 200000) (w : World) : Calls Tryd.prog 38 #[.string s, .bool true] w fun e w' => (∃ (f u pt : Int) (sd : Bool) (t : ByteArray), e = .returned (.agg #[.int .i64 f, .int .i64 u, .int .i64 pt, .bool sd, .string t]) ∧ LnPr s f u pt sd t) ∧ Below w.heap.size w w' := by
  have p1 := untB_size 32 s
  have p2 := untB_size 32 (untB 32 s).2.1
  have p3 := untB_size 32 (untB 32 (untB 32 s).2.1).2.1
  have p4 := untB_size 32 (untB 32 (untB 32 (untB 32 s).2.1).2.1).2.1
  have hln := fun (f u pt : Int) (sd : Bool) (t : ByteArray) => lnPr_of (s := s) (f := f) (u := u) (pt := pt) (sd := sd) (t := t)
  have q1 := Lib.hid (fun W => runtil_any s (by omega) W)
  have q2 := Lib.hid (fun W => runtil_any (untB 32 s).2.1 (by omega) W)
  have q3 := Lib.hid (fun W => runtil_any (untB 32 (untB 32 s).2.1).2.1 (by omega) W)
  have q4 := Lib.hid (fun W => rnumber_any (untB 32 (untB 32 (untB 32 s).2.1).2.1).1 (by omega) W)
  have q6 := Lib.hid (fun W => runtil_any (untB 32 (untB 32 (untB 32 s).2.1).2.1).2.1 (by omega) W)
  have q7 := Lib.hid (fun W => rnumber_any (untB 32 (untB 32 (untB 32 (untB 32 s).2.1).2.1).2.1).1 (by omega) W)
  have q5 := Lib.hid (fun W => rbare_any (untB 32 (untB 32 (untB 32 (untB 32 s).2.1).2.1).2.1).2.1 (by omega) W)
  obtain ⟨⟨U1a, U1b, U1c⟩, hU1⟩ : ∃ U, untB 32 s = U := ⟨_, rfl⟩
  simp only [hU1] at p1 p2 p3 p4 hln q1 q2 q3 q4 q5 q6 q7
  obtain ⟨⟨U2a, U2b, U2c⟩, hU2⟩ : ∃ U, untB 32 U1b = U := ⟨_, rfl⟩
  simp only [hU2] at p2 p3 p4 hln q2 q3 q4 q5 q6 q7
  obtain ⟨⟨U3a, U3b, U3c⟩, hU3⟩ : ∃ U, untB 32 U2b = U := ⟨_, rfl⟩
  simp only [hU3] at p3 p4 hln q3 q4 q5 q6 q7
  obtain ⟨⟨U4a, U4b, U4c⟩, hU4⟩ : ∃ U, untB 32 U3b = U := ⟨_, rfl⟩
  simp only [hU4] at p4 hln q5 q6 q7
  replace hln := Lib.hid hln
  clear p1 p2 p3 p4 hU1 hU2 hU3 hU4
  have hZ := Lib.hid (⟨Bk.fresh w 66 (lnV 0 0 0 false ⟨#[]⟩), (Below.refl _ _).alloc (Nat.le_refl _) _⟩ : Bk (w.alloc (.cells (lnV 0 0 0 false ⟨#[]⟩) 66)) w.heap.size 66 (lnV 0 0 0 false ⟨#[]⟩) ∧ Below w.heap.size w (w.alloc (.cells (lnV 0 0 0 false ⟨#[]⟩) 66)))
  go_enter Tryd.func38, Tryd.ntmps38
  go_wp2_with (fail)
  refine (q1.out _).mono ?_
  rintro e w1 ⟨rfl, hb⟩
  replace hZ := Lib.hid (⟨hZ.out.1.kept hb hZ.out.1.lt, hZ.out.2.trans (hb.mono hZ.out.2.size)⟩ : Bk w1 w.heap.size 66 (lnV 0 0 0 false ⟨#[]⟩) ∧ Below w.heap.size w w1)
  clear hb
  go_wp2_with (fail)
  refine (q2.out _).mono ?_
  rintro e w2_ ⟨rfl, hb⟩
  replace hZ := Lib.hid (⟨hZ.out.1.kept hb hZ.out.1.lt, hZ.out.2.trans (hb.mono hZ.out.2.size)⟩ : Bk w2_ w.heap.size 66 (lnV 0 0 0 false ⟨#[]⟩) ∧ Below w.heap.size w w2_)
  clear hb
  go_wp2_with (fail)
  refine (q3.out _).mono ?_
  rintro e w3 ⟨rfl, hb⟩
  replace hZ := Lib.hid (⟨hZ.out.1.kept hb hZ.out.1.lt, hZ.out.2.trans (hb.mono hZ.out.2.size)⟩ : Bk w3 w.heap.size 66 (lnV 0 0 0 false ⟨#[]⟩) ∧ Below w.heap.size w w3)
  clear hb
  go_wp2_with (fail)
  refine (q4.out _).mono ?_
  rintro e w4 ⟨⟨u, rfl, hN⟩, hb⟩
  replace hZ := Lib.hid (⟨hZ.out.1.kept hb hZ.out.1.lt, hZ.out.2.trans (hb.mono hZ.out.2.size)⟩ : Bk w4 w.heap.size 66 (lnV 0 0 0 false ⟨#[]⟩) ∧ Below w.heap.size w w4)
  replace hN := Lib.hid hN
  clear hb q1 q2 q3 q4
  go_wp2_with (fail)
  obtain ⟨x, hx⟩ : ∃ x, w4.heap.size = x := ⟨_, rfl⟩
  have hlt : w.heap.size < x := by rw [← hx]; exact hZ.out.1.lt
  have hL4 : Lb w x (-1) u 0 false ⟨#[]⟩ (w4.alloc (.cells (lnV (-1) u 0 false ⟨#[]⟩) 66)) :=
    ⟨hZ.out.1.past _, by rw [← hx]; exact Bk.fresh _ _ _, hlt, hZ.out.2.alloc hZ.out.2.size _⟩
  unfold lnV at hL4
  rw [hx]
  obtain ⟨X, hX⟩ : ∃ X, w4.alloc (.cells #[.int .i64 (-1), .int .i64 u, .int .i64 0, .bool false, .string ⟨#[]⟩] 66) = X := ⟨_, rfl⟩
  rw [hX] at hL4
  rw [hX]
  replace hL4 := Lib.hid hL4
  clear hX hx hZ hlt
  go_loopw [8] (fun x8 wr => ∃ (k : Nat) (F : Int), x8 = .int .i64 k ∧ k ≤ 22 ∧ Hid (FQ U2a k F ∧ Lb w x F u 0 false ⟨#[]⟩ wr)) (fun x8 _ => 22 - (intOf x8).toNat)
  case atStart => exact ⟨0, -1, rfl, by decide, Lib.hid ⟨FQ.zero _, hL4.out⟩⟩
  case round =>
    obtain ⟨k, F, rfl, hk, hQ⟩ := hrel
    clear hL4
    by_cases hlt : k < 22
    · have hlt' : (k : Int) < 22 := by omega
      have hwd := rword_any (k : Int) wr
      obtain ⟨S, hS⟩ : ∃ S, wordB (k : Int) = S := ⟨_, rfl⟩
      rw [hS] at hwd
      replace hwd := Lib.hid hwd
      replace hS := Lib.hid hS
      replace hlt := Lib.hid hlt
      by_cases he : S = U2a
      · have g1 : (S.toList == U2a.toList) = true := by rw [he]; simp
        have hF := FQ.yes (W := U2a) hlt.out (hS.out.trans he)
        replace he := Lib.hid he
        replace hF := Lib.hid hF
        go_wp2_with (fail)
        refine hwd.out.mono ?_
        rintro e w5 ⟨rfl, hb⟩
        have hZ := Lib.hid (hQ.out.2.bel hb)
        clear hb hQ hwd
        have c0 := hZ.out.box.cell 0
        have c1 := hZ.out.box.cell 1
        have c2 := hZ.out.box.cell 2
        have c3 := hZ.out.box.cell 3
        have c4 := hZ.out.box.cell 4
        have f0 := hZ.out.box.free 0
        have f1 := hZ.out.box.free 1
        have f2 := hZ.out.box.free 2
        have f3 := hZ.out.box.free 3
        have f4 := hZ.out.box.free 4
        simp [lnV] at c0 c1 c2 c3 c4
        go_wp2_with (fail)
        exact ⟨⟨k + 1, k, rfl, by have := hlt.out; omega, Lib.hid ⟨hF.out, hZ.out.put 0 _ rfl⟩⟩, by simp [intOf]; have := hlt.out; omega⟩
      · have g1 : (S.toList == U2a.toList) = false := by
          simp only [beq_eq_false_iff_ne, ne_eq]
          intro h
          rw [Lib.toList_data, Lib.toList_data] at h
          exact he (ba_ext h)
        have hF := hQ.out.1.no (by rw [hS.out]; exact he)
        replace he := Lib.hid he
        replace hF := Lib.hid hF
        go_wp2_with (fail)
        refine hwd.out.mono ?_
        rintro e w5 ⟨rfl, hb⟩
        have hZ := Lib.hid (hQ.out.2.bel hb)
        clear hb hQ hwd
        go_wp2_with (fail)
        exact ⟨⟨k + 1, F, rfl, by have := hlt.out; omega, Lib.hid ⟨hF.out, hZ.out⟩⟩, by simp [intOf]; have := hlt.out; omega⟩
    · have hlt' : ¬ (k : Int) < 22 := by omega
      obtain rfl : k = 22 := by omega
      have hF := Lib.hid hQ.out.1
      have hZ := Lib.hid hQ.out.2
      clear hQ hlt
      go_wp2_with (fail)
      refine (q6.out _).mono ?_
      rintro e w5 ⟨rfl, hb⟩
      have hZ5 := hZ.out.bel hb
      replace hZ := Lib.hid hZ5
      clear hb hZ5 q6
      by_cases hd : U4a.data.toList = [45]
      · have g1 : (U4a.toList == [45]) = true := by rw [Lib.toList_data, hd]; rfl
        have g2 : (U4a.toList != [45]) = false := by rw [Lib.toList_data, hd]; rfl
        replace hd := Lib.hid hd
        have c0 := hZ.out.box.cell 0
        have c1 := hZ.out.box.cell 1
        have c2 := hZ.out.box.cell 2
        have c3 := hZ.out.box.cell 3
        have c4 := hZ.out.box.cell 4
        have f0 := hZ.out.box.free 0
        have f1 := hZ.out.box.free 1
        have f2 := hZ.out.box.free 2
        have f3 := hZ.out.box.free 3
        have f4 := hZ.out.box.free 4
        simp [lnV] at c0 c1 c2 c3 c4
        go_wp2_with (fail)
        have hZ5 := hZ.out.put 3 (.bool false) (f' := F) rfl
        replace hZ := Lib.hid hZ5
        clear hZ5 c0 c1 c2 c3 c4 f0 f1 f2 f3 f4 q7
        refine (q5.out _).mono ?_
        rintro e w7 ⟨⟨t, rfl, ht⟩, hb⟩
        have hZ7 := hZ.out.bel hb
        replace hZ := Lib.hid hZ7
        replace ht := Lib.hid ht
        clear hb hZ7 q5
        have c0 := hZ.out.box.cell 0
        have c1 := hZ.out.box.cell 1
        have c2 := hZ.out.box.cell 2
        have c3 := hZ.out.box.cell 3
        have c4 := hZ.out.box.cell 4
        have f0 := hZ.out.box.free 0
        have f1 := hZ.out.box.free 1
        have f2 := hZ.out.box.free 2
        have f3 := hZ.out.box.free 3
        have f4 := hZ.out.box.free 4
        simp [lnV] at c0 c1 c2 c3 c4
        have hR := Lib.hid ((hZ.out.put 4 (.string t) rfl).res)
        have r0 := hR.out.cell 0
        have r1 := hR.out.cell 1
        have r2 := hR.out.cell 2
        have r3 := hR.out.cell 3
        have r4 := hR.out.cell 4
        have z0 := hR.out.free 0
        have z1 := hR.out.free 1
        have z2 := hR.out.free 2
        have z3 := hR.out.free 3
        have z4 := hR.out.free 4
        have hB7 := (hZ.out.put 4 (.string t) (f' := F) rfl).box
        have b0 := hB7.cell 0
        have b1 := hB7.cell 1
        have b2 := hB7.cell 2
        have b3 := hB7.cell 3
        have b4 := hB7.cell 4
        simp [lnV] at r0 r1 r2 r3 r4 b0 b1 b2 b3 b4
        clear hB7
        go_wp2_with (fail)
        have hS9 := ((((hR.out.put 0 (.int .i64 F)).put 1 (.int .i64 u)).put 2 (.int .i64 0)).put 3 (.bool false)).put 4 (.string t)
        have hB9 : Below w.heap.size w ((((((w7.setCell ⟨x, 4, none⟩ (.string t)).setCell ⟨w.heap.size, 0, none⟩ (.int .i64 F)).setCell ⟨w.heap.size, 1, none⟩ (.int .i64 u)).setCell ⟨w.heap.size, 2, none⟩ (.int .i64 0)).setCell ⟨w.heap.size, 3, none⟩ (.bool false)).setCell ⟨w.heap.size, 4, none⟩ (.string t)) :=
          (((((hZ.out.put 4 (.string t) (f' := F) rfl).bl.setCell (p := ⟨w.heap.size, 0, none⟩) (Nat.le_refl _) _).setCell (p := ⟨w.heap.size, 1, none⟩) (Nat.le_refl _) _).setCell (p := ⟨w.heap.size, 2, none⟩) (Nat.le_refl _) _).setCell (p := ⟨w.heap.size, 3, none⟩) (Nat.le_refl _) _).setCell (p := ⟨w.heap.size, 4, none⟩) (Nat.le_refl _) _
        obtain ⟨w9, hw9⟩ : ∃ w9, ((((((w7.setCell ⟨x, 4, none⟩ (.string t)).setCell ⟨w.heap.size, 0, none⟩ (.int .i64 F)).setCell ⟨w.heap.size, 1, none⟩ (.int .i64 u)).setCell ⟨w.heap.size, 2, none⟩ (.int .i64 0)).setCell ⟨w.heap.size, 3, none⟩ (.bool false)).setCell ⟨w.heap.size, 4, none⟩ (.string t)) = w9 := ⟨_, rfl⟩
        rw [hw9] at hS9 hB9
        rw [hw9]
        have r0 := hS9.cell 0
        have r1 := hS9.cell 1
        have r2 := hS9.cell 2
        have r3 := hS9.cell 3
        have r4 := hS9.cell 4
        simp [lnV] at r0 r1 r2 r3 r4
        refine bodyPost_ret (by simp [results, Tryd.results38, go_sem, r0, r1, r2, r3, r4]; rfl) rfl ?_
        exact ⟨⟨F, u, 0, false, t, rfl, hln.out F u 0 false t hF.out hN.out (.inl ⟨hd.out, rfl, rfl⟩) ht.out⟩, hB9⟩
      · have g1 : (U4a.toList == [45]) = false := by rw [Lib.toList_data]; simpa using hd
        have g2 : (U4a.toList != [45]) = true := by rw [Lib.toList_data]; simpa using hd
        replace hd := Lib.hid hd
        have c0 := hZ.out.box.cell 0
        have c1 := hZ.out.box.cell 1
        have c2 := hZ.out.box.cell 2
        have c3 := hZ.out.box.cell 3
        have c4 := hZ.out.box.cell 4
        have f0 := hZ.out.box.free 0
        have f1 := hZ.out.box.free 1
        have f2 := hZ.out.box.free 2
        have f3 := hZ.out.box.free 3
        have f4 := hZ.out.box.free 4
        simp [lnV] at c0 c1 c2 c3 c4
        go_wp2_with (fail)
        have hZ5 := hZ.out.put 3 (.bool true) (f' := F) rfl
        replace hZ := Lib.hid hZ5
        clear hZ5 c0 c1 c2 c3 c4 f0 f1 f2 f3 f4
        refine (q7.out _).mono ?_
        rintro e w6 ⟨⟨pt, rfl, hP⟩, hb⟩
        have hZ6 := hZ.out.bel hb
        replace hZ := Lib.hid hZ6
        replace hP := Lib.hid hP
        clear hb hZ6 q7
        have c0 := hZ.out.box.cell 0
        have c1 := hZ.out.box.cell 1
        have c2 := hZ.out.box.cell 2
        have c3 := hZ.out.box.cell 3
        have c4 := hZ.out.box.cell 4
        have f0 := hZ.out.box.free 0
        have f1 := hZ.out.box.free 1
        have f2 := hZ.out.box.free 2
        have f3 := hZ.out.box.free 3
        have f4 := hZ.out.box.free 4
        simp [lnV] at c0 c1 c2 c3 c4
        go_wp2_with (fail)
        have hZ5 := hZ.out.put 2 (.int .i64 pt) (f' := F) rfl
        replace hZ := Lib.hid hZ5
        clear hZ5 c0 c1 c2 c3 c4 f0 f1 f2 f3 f4
        refine (q5.out _).mono ?_
        rintro e w7 ⟨⟨t, rfl, ht⟩, hb⟩
        have hZ7 := hZ.out.bel hb
        replace hZ := Lib.hid hZ7
        replace ht := Lib.hid ht
        clear hb hZ7 q5
        have c0 := hZ.out.box.cell 0
        have c1 := hZ.out.box.cell 1
        have c2 := hZ.out.box.cell 2
        have c3 := hZ.out.box.cell 3
        have c4 := hZ.out.box.cell 4
        have f0 := hZ.out.box.free 0
        have f1 := hZ.out.box.free 1
        have f2 := hZ.out.box.free 2
        have f3 := hZ.out.box.free 3
        have f4 := hZ.out.box.free 4
        simp [lnV] at c0 c1 c2 c3 c4
        have hR := Lib.hid ((hZ.out.put 4 (.string t) rfl).res)
        have r0 := hR.out.cell 0
        have r1 := hR.out.cell 1
        have r2 := hR.out.cell 2
        have r3 := hR.out.cell 3
        have r4 := hR.out.cell 4
        have z0 := hR.out.free 0
        have z1 := hR.out.free 1
        have z2 := hR.out.free 2
        have z3 := hR.out.free 3
        have z4 := hR.out.free 4
        have hB7 := (hZ.out.put 4 (.string t) (f' := F) rfl).box
        have b0 := hB7.cell 0
        have b1 := hB7.cell 1
        have b2 := hB7.cell 2
        have b3 := hB7.cell 3
        have b4 := hB7.cell 4
        simp [lnV] at r0 r1 r2 r3 r4 b0 b1 b2 b3 b4
        clear hB7
        go_wp2_with (fail)
        have hS9 := ((((hR.out.put 0 (.int .i64 F)).put 1 (.int .i64 u)).put 2 (.int .i64 pt)).put 3 (.bool true)).put 4 (.string t)
        have hB9 : Below w.heap.size w ((((((w7.setCell ⟨x, 4, none⟩ (.string t)).setCell ⟨w.heap.size, 0, none⟩ (.int .i64 F)).setCell ⟨w.heap.size, 1, none⟩ (.int .i64 u)).setCell ⟨w.heap.size, 2, none⟩ (.int .i64 pt)).setCell ⟨w.heap.size, 3, none⟩ (.bool true)).setCell ⟨w.heap.size, 4, none⟩ (.string t)) :=
          (((((hZ.out.put 4 (.string t) (f' := F) rfl).bl.setCell (p := ⟨w.heap.size, 0, none⟩) (Nat.le_refl _) _).setCell (p := ⟨w.heap.size, 1, none⟩) (Nat.le_refl _) _).setCell (p := ⟨w.heap.size, 2, none⟩) (Nat.le_refl _) _).setCell (p := ⟨w.heap.size, 3, none⟩) (Nat.le_refl _) _).setCell (p := ⟨w.heap.size, 4, none⟩) (Nat.le_refl _) _
        obtain ⟨w9, hw9⟩ : ∃ w9, ((((((w7.setCell ⟨x, 4, none⟩ (.string t)).setCell ⟨w.heap.size, 0, none⟩ (.int .i64 F)).setCell ⟨w.heap.size, 1, none⟩ (.int .i64 u)).setCell ⟨w.heap.size, 2, none⟩ (.int .i64 pt)).setCell ⟨w.heap.size, 3, none⟩ (.bool true)).setCell ⟨w.heap.size, 4, none⟩ (.string t)) = w9 := ⟨_, rfl⟩
        rw [hw9] at hS9 hB9
        rw [hw9]
        have r0 := hS9.cell 0
        have r1 := hS9.cell 1
        have r2 := hS9.cell 2
        have r3 := hS9.cell 3
        have r4 := hS9.cell 4
        simp [lnV] at r0 r1 r2 r3 r4
        refine bodyPost_ret (by simp [results, Tryd.results38, go_sem, r0, r1, r2, r3, r4]; rfl) rfl ?_
        exact ⟨⟨F, u, pt, true, t, rfl, hln.out F u pt true t hF.out hN.out (.inr ⟨hd.out, rfl, hP.out⟩) ht.out⟩, hB9⟩
end Go.Proofs.YtbhgjjicmbbjaaaDoor
