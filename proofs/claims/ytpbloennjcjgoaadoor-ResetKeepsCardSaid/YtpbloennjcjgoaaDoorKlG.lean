import Derived.Test.YtpbloennjcjgoaaDoorKlF
import Derived.Test.YtpbloennjcjgoaaDoorResV
import Derived.Test.YtpbloennjcjgoaaDoorPostOps16
namespace Go.Proofs.YtpbloennjcjgoaaDoor
open Go.RowKit
set_option linter.unusedVariables false
set_option linter.unusedSimpArgs false
/-! ResetLays -/
def stB (S D R : ByteArray) (x y : Int) : Array Value := #[.string S, .string D, .string R, .int .i64 x, .int .i64 y]
def layB (L : Lay) : Array Value := #[.int .i64 L.k, .int .i64 L.s, .int .i64 L.u, .int .i64 L.d, .int .i64 L.r]
/-- the boxes and the list -/
def Kq (w : World) (b q p : Nat) (L : Lay) (f y bx lx : Nat) (S D R : ByteArray) (x z : Int) (W : World) : Prop := (∃ B h l, Dc W q p b L 3 f y B false false h l) ∧ Bk W bx 23 (stB S D R x z) ∧ Bk W lx 49 (layB L) ∧ Below w.heap.size w W
theorem Kq.bel {w W W' : World} {b q p : Nat} {L : Lay} {f y bx lx : Nat} {S D R : ByteArray} {x z : Int} (K : Kq w b q p L f y bx lx S D R x z W) (hb : Below W.heap.size W W') : Kq w b q p L f y bx lx S D R x z W' := by
  obtain ⟨⟨B, h, l, Dq⟩, h1, h2, h3⟩ := K
  exact ⟨⟨B, h, l, Dq.bel hb⟩, h1.kept hb h1.lt, h2.kept hb h2.lt, h3.trans (hb.mono h3.size)⟩
theorem Kq.goes {w W W' : World} {b q p : Nat} {L : Lay} {f y bx lx : Nat} {S D R : ByteArray} {x z : Int} (K : Kq w b q p L f y bx lx S D R x z W) (hb : w.heap.size ≤ b) (hq : w.heap.size ≤ q) (G : Goes q p b L f y W W') : Kq w b q p L f y bx lx S D R x z W' := by
  obtain ⟨⟨B, h, l, Dq⟩, h1, h2, h3⟩ := K
  obtain ⟨B', h', l', Dq', hO⟩ := G
  exact ⟨⟨B', h', l', Dq'⟩, hO.bk h1 (h1.ne Dq.im.by_ (by decide)) (h1.ne Dq.bk (by decide)), hO.bk h2 (h2.ne Dq.im.by_ (by decide)) (h2.ne Dq.bk (by decide)), h3.trans (hO.below hb hq h3.size)⟩
/-- what stands at the end: the list, the state's box, the box of what was -/
def Fin (w : World) (b q p : Nat) (L : Lay) (f y bx kx : Nat) (S D R : ByteArray) (x z : Int) (P3 P4 P5 : ByteArray) (h l : Nat) (B : List UInt8) (W : World) : Prop := Dc W q p b L 3 f y B false false h l ∧ Bk W bx 23 (stB S D R x z) ∧ Bk W kx 23 (stB P3 P4 P5 h l) ∧ Below w.heap.size w W
section
variable {w W W' : World} {b q p : Nat} {L : Lay} {f y bx kx : Nat} {S D R : ByteArray} {x z : Int} {P3 P4 P5 : ByteArray} {h l : Nat} {B : List UInt8}
theorem Fin.kept {K : Nat} (F : Fin w b q p L f y bx kx S D R x z P3 P4 P5 h l B W) (hb : Below K W W') (h0 : w.heap.size ≤ K) (h1 : b < K) (h2 : q < K) (h3 : p < K) (h4 : bx < K) (h5 : kx < K) : Fin w b q p L f y bx kx S D R x z P3 P4 P5 h l B W' :=
  ⟨⟨F.1.im.kept hb h3 h1, F.1.bk.kept hb h2, F.1.rr, F.1.fx, F.1.yx, F.1.lo, F.1.hi, F.1.la⟩, F.2.1.kept hb h4, F.2.2.1.kept hb h5, F.2.2.2.trans (hb.mono h0)⟩
theorem Fin.bel (F : Fin w b q p L f y bx kx S D R x z P3 P4 P5 h l B W) (hb : Below W.heap.size W W') : Fin w b q p L f y bx kx S D R x z P3 P4 P5 h l B W' :=
  F.kept hb F.2.2.2.size F.1.im.by_.lt F.1.bk.lt F.1.im.st.lt F.2.1.lt F.2.2.1.lt
end
theorem Kq.put {w W : World} {b q p : Nat} {L : Lay} {f y bx lx : Nat} {S D R : ByteArray} {x z : Int} (K : Kq w b q p L f y bx lx S D R x z W) (hb : w.heap.size ≤ bx) (i : Nat) (hi : i < 3) (T : ByteArray) : Kq w b q p L f y bx lx (if i = 0 then T else S) (if i = 1 then T else D) (if i = 2 then T else R) x z (W.setCell ⟨bx, i, none⟩ (.string T)) := by
  obtain ⟨⟨B, h, l, Dq⟩, h1, h2, h3⟩ := K
  have n1 : bx ≠ b := h1.ne Dq.im.by_ (by decide)
  have n2 : bx ≠ q := h1.ne Dq.bk (by decide)
  have n3 : bx ≠ p := h1.ne Dq.im.st (by decide)
  have n4 : bx ≠ lx := h1.ne h2 (by decide)
  refine ⟨⟨B, h, l, ⟨Dq.im.far (q := ⟨bx, i, none⟩) n3.symm n1.symm _, Dq.bk.other (p := ⟨bx, i, none⟩) n2.symm _, Dq.rr, Dq.fx, Dq.yx, Dq.lo, Dq.hi, Dq.la⟩⟩, ?_, h2.other (p := ⟨bx, i, none⟩) n4.symm _, h3.setCell (p := ⟨bx, i, none⟩) hb _⟩
  have := h1.put i (.string T)
  rcases (by omega : i = 0 ∨ i = 1 ∨ i = 2) with rfl | rfl | rfl <;> simpa [stB] using this
set_option maxRecDepth 100000 in
set_option maxHeartbeats 8000000 in
theorem walk_lays (dd : Int) (A : Option Addr) (n c : Nat) (S D R : ByteArray) (x z : Int) (fit : Bool) (w : World) (hM : Mark w) (hd : (Lit.int .i64 dd).wf = true) (ho : Ops16 w A n) (_ : S.size ≤ maxLen) (_ : D.size ≤ maxLen) (_ : R.size ≤ maxLen) (_ : -9223372036854775808 ≤ x ∧ x ≤ 9223372036854775807) (_ : -9223372036854775808 ≤ z ∧ z ≤ 9223372036854775807) :
    Calls Tryd.prog 7 #[.int .i64 dd, .slice A n c, .agg #[.string S, .string D, .string R, .int .i64 x, .int .i64 z], .bool fit] w fun e w' => e = .returned (.bool true) ∧ Below w.heap.size w w' := by
  have hn := ho.1
  have hops := Lib.hid ho.2
  have hn4 : (n : Int) ≤ 140737488351232 := by omega
  have hdI : inI dd := by simpa [inI, Lit.wf, IntKind.min, IntKind.max, IntKind.signed, IntKind.bits] using hd
  have hlay := fun w1 => layout16_any dd w1 hdI
  have hbeg := fun w1 => begun16 dd w1
  have hok := layOf16_ok dd
  obtain ⟨L, hL⟩ : ∃ L, layOf16 dd = L := ⟨_, rfl⟩
  simp only [hL] at hlay hbeg hok
  clear hL hd hdI ho
  replace hlay := Lib.hid hlay
  replace hbeg := Lib.hid hbeg
  replace hok := Lib.hid hok
  go_enter Tryd.func7, Tryd.ntmps7
  go_wp2_with (fail)
  have hb0 : Below w.heap.size w (w.alloc (.cells (stB S D R x z) 23)) := (Below.refl _ _).alloc (Nat.le_refl _) _
  have hx := Bk.fresh w 23 (stB S D R x z)
  unfold stB at hx hb0
  obtain ⟨X, hX⟩ : ∃ X, w.alloc (.cells #[.string S, .string D, .string R, .int .i64 x, .int .i64 z] 23) = X := ⟨_, rfl⟩
  rw [hX] at hb0 hx ⊢
  obtain ⟨bx, hbx⟩ : ∃ bx, w.heap.size = bx := ⟨_, rfl⟩
  rw [hbx] at hx ⊢
  clear hX
  refine (shown_any X (hM.kept hb0 hM.1)).mono ?_
  rintro e w1 ⟨rfl, hb1⟩
  replace hx := hx.kept hb1 hx.lt
  have Hb1 := hb0.trans (hb1.mono hb0.size)
  replace hx := Lib.hid hx
  replace Hb1 := Lib.hid Hb1
  clear hb0 hb1 hM
  go_wp2_with (fail)
  refine (hlay.out w1).mono ?_
  rintro e w2 ⟨rfl, hb2⟩
  have hx2 := hx.out.kept hb2 hx.out.lt
  have Hb2 := Hb1.out.trans (hb2.mono Hb1.out.size)
  have hlx := Bk.fresh w2 49 (layB L)
  have Hb3 := Hb2.alloc Hb2.size (.cells (layB L) 49)
  have hx3 := hx2.past (.cells (layB L) 49)
  unfold layB at hlx Hb3 hx3
  obtain ⟨w3, hw3⟩ : ∃ w3, w2.alloc (.cells #[.int .i64 L.k, .int .i64 L.s, .int .i64 L.u, .int .i64 L.d, .int .i64 L.r] 49) = w3 := ⟨_, rfl⟩
  obtain ⟨lx, hlx'⟩ : ∃ lx, w2.heap.size = lx := ⟨_, rfl⟩
  rw [hw3, hlx'] at hlx
  rw [hw3] at Hb3 hx3
  have k0 := hlx.cell 0
  have k1 := hlx.cell 1
  have k2 := hlx.cell 2
  have k3 := hlx.cell 3
  have k4 := hlx.cell 4
  simp at k0 k1 k2 k3 k4
  rw [← hw3] at k0 k1 k2 k3 k4
  replace hw3 := Lib.hid hw3
  replace hlx := Lib.hid hlx
  replace Hb3 := Lib.hid Hb3
  replace hx3 := Lib.hid hx3
  unfold LV layV at *
  clear hb2 hx2 Hb2 hx Hb1 hlay
  go_wp2_with (fail)
  try rw [hw3.out]
  have hbg := hbeg.out w3
  refine hbg.mono ?_
  rintro e w4 ⟨p, b, q, rfl, hI, hDq, z1, z2, z3, hb4⟩
  have m := Lay.mono hok.out
  have Dq : Dc w4 q p b L 3 (L.beg 3 + 8) (L.beg 4) (List.replicate L.b6 0) false false (L.beg 3 + 8) 0 :=
    ⟨hI, hDq, .inr rfl, rfl, rfl, Nat.le_refl _, by show L.b3 + 8 ≤ L.b4; have := hok.out; unfold Lay.ok at this; unfold Lay.b4; omega, .inl rfl⟩
  obtain ⟨f, hf⟩ : ∃ f, L.beg 3 + 8 = f := ⟨_, rfl⟩
  obtain ⟨y, hy⟩ : ∃ y, L.beg 4 = y := ⟨_, rfl⟩
  rw [hf, hy] at Dq
  have K : Kq w b q p L f y bx lx S D R x z w4 := ⟨⟨_, _, _, Dq⟩, hx3.out.kept hb4 hx3.out.lt, hlx.out.kept hb4 hlx.out.lt, Hb3.out.trans (hb4.mono Hb3.out.size)⟩
  have gb : w.heap.size ≤ b := Nat.le_trans Hb3.out.size z2
  have gq : w.heap.size ≤ q := Nat.le_trans Hb3.out.size z3
  replace K := Lib.hid K
  replace gb := Lib.hid gb
  replace gq := Lib.hid gq
  replace hf := Lib.hid hf
  replace hy := Lib.hid hy
  clear Dq m hI hDq z1 z2 z3 hb4 hbg hbeg hlx hx3 Hb3 hw3 k0 k1 k2 k3 k4
  go_upto_region 6 with (fail)
  go_cut [13] from 39 to 55 (fun s13 wx => s13 = .int .i64 0 ∧ wx = w4)
  case first =>
    go_wp2_with (fail)
    go_meet
    exact ⟨rfl, rfl⟩
  case' rest =>
    obtain ⟨rfl, hwx⟩ := hcut
    replace hwx := hwx.symm
    subst hwx
  rename_i hKK
  refine hKK _ _ ?_
  clear hKK
  go_cut [13] from 39 to 55 (fun s13 wx => Hid (Kq w b q p L f y bx lx S D R x z wx))
  case first =>
    go_wp2_with (fail)
    go_loopw [13] (fun x_ wr => ∃ j : Nat, x_ = .int .i64 j ∧ j ≤ n ∧ j ≤ 60 ∧ Hid (Kq w b q p L f y bx lx S D R x z wr)) (fun x_ _ => n - (intOf x_).toNat)
    case atStart => exact ⟨0, rfl, Nat.zero_le _, by decide, K⟩
    case round =>
      obtain ⟨j, rfl, hj1, hj2, hQ⟩ := hrel
      clear K
      by_cases hj : j < n ∧ j < 60
      · have j0 : (j : Int) < (n : Int) := by omega
        have j1 : (j : Int) < 60 := by omega
        obtain ⟨bb, off, v0, v1, v2, rfl, hbl, o0, o1, o2, g0, g1, g2⟩ := hops.out j hj.1
        have hB := hQ.out.2.2.2
        replace o0 := (hB.cell (p := ⟨bb, off + j * 3, none⟩) hbl).trans o0
        replace o1 := (hB.cell (p := ⟨bb, off + j * 3 + 1, none⟩) hbl).trans o1
        replace o2 := (hB.cell (p := ⟨bb, off + j * 3 + 2, none⟩) hbl).trans o2
        have hdo : Calls Tryd.prog 24 #[.pointer (some ⟨p, 0, none⟩), .pointer (some ⟨q, 0, none⟩), .agg #[.int .i64 v0, .int .i64 v1, .string v2]] wr fun e w' => e = .returned (.tuple #[]) ∧ Goes q p b L f y wr w' := by
          obtain ⟨⟨B, h, l, Dq⟩, _⟩ := hQ.out
          exact does_any Dq v0 v1 v2 g0 g1 g2
        replace hdo := Lib.hid hdo
        clear hbl hB g0 g1 g2
        go_wp2_with (fail)
        refine hdo.out.mono ?_
        rintro e w9 ⟨rfl, G⟩
        have hn9 := hQ.out.goes gb.out gq.out G
        clear G hdo o0 o1 o2
        replace hn9 := Lib.hid hn9
        go_wp2_with (fail)
        exact ⟨⟨j + 1, rfl, by omega, by omega, hn9⟩, by simp [intOf]; omega⟩
      · have hcond : (¬ (j : Int) < (n : Int)) ∨ ((j : Int) < (n : Int) ∧ ¬ (j : Int) < 60) := by omega
        rcases hcond with h1 | ⟨h1, h2⟩
        all_goals
          go_wp2_with (fail)
          go_meet
          exact hQ
  case' rest =>
    clear hops K
    replace K := hcut
    clear hcut
  rename_i hKK kk2 a39 a40 a41 a42 a43 a44 a45 a46 a47 a48 a49 a50 a51 a52 a53 a54 a55
  refine hKK _ _ ?_
  clear hKK
  have hbxw : w.heap.size ≤ bx := Nat.le_of_eq hbx
  have hLb : L.u ≤ 143360 ∧ L.d ≤ 143360 ∧ L.r ≤ 143360 := by have := hok.out; unfold Lay.ok at this; omega
  obtain ⟨q1, q2, q3⟩ := hLb
  refine wp_seq_k ?_
  intro K9 hK9
  go_cut [56] from 57 to 74 (fun s56 wx => ∃ T0 T1 T2, Hid (Kq w b q p L f y bx lx T0 T1 T2 x z wx))
  case first =>
    cases fit
    · go_wp2_with (fail)
      go_meet
      exact ⟨_, _, _, K⟩
    · skip
      have hfl := Lib.hid (fun (W : World) => filled_any S L.u (by omega) W)
      have c0 := K.out.2.1.cell 0
      have c1 := K.out.2.1.cell 1
      have c2 := K.out.2.1.cell 2
      have f0 := K.out.2.1.free 0
      have f1 := K.out.2.1.free 1
      have f2 := K.out.2.1.free 2
      have l2 := K.out.2.2.1.cell 2
      have l3 := K.out.2.2.1.cell 3
      have l4 := K.out.2.2.1.cell 4
      simp [stB, layB] at c0 c1 c2 l2 l3 l4
      go_wp2_with (fail)
      refine (hfl.out _).mono ?_
      rintro e w5_ ⟨rfl, hb⟩
      have K1 := K.out.bel hb
      replace K := Lib.hid K1
      clear K1 hb hfl c0 c1 c2 f0 f1 f2 l2 l3 l4
      have K2 := K.out.put hbxw 0 (by decide) (fillS S L.u)
      simp at K2
      have c0 := K.out.2.1.cell 0
      have c1 := K.out.2.1.cell 1
      have c2 := K.out.2.1.cell 2
      have f0 := K.out.2.1.free 0
      have f1 := K.out.2.1.free 1
      have f2 := K.out.2.1.free 2
      have l2 := K.out.2.2.1.cell 2
      have l3 := K.out.2.2.1.cell 3
      have l4 := K.out.2.2.1.cell 4
      simp [stB, layB] at c0 c1 c2 l2 l3 l4
      replace K := Lib.hid K2
      clear K2
      have hfl := Lib.hid (fun (W : World) => filled_any D L.d (by omega) W)
      have c0 := K.out.2.1.cell 0
      have c1 := K.out.2.1.cell 1
      have c2 := K.out.2.1.cell 2
      have f0 := K.out.2.1.free 0
      have f1 := K.out.2.1.free 1
      have f2 := K.out.2.1.free 2
      have l2 := K.out.2.2.1.cell 2
      have l3 := K.out.2.2.1.cell 3
      have l4 := K.out.2.2.1.cell 4
      simp [stB, layB] at c0 c1 c2 l2 l3 l4
      go_wp2_with (fail)
      refine (hfl.out _).mono ?_
      rintro e w5_ ⟨rfl, hb⟩
      have K1 := K.out.bel hb
      replace K := Lib.hid K1
      clear K1 hb hfl c0 c1 c2 f0 f1 f2 l2 l3 l4
      have K2 := K.out.put hbxw 1 (by decide) (fillS D L.d)
      simp at K2
      have c0 := K.out.2.1.cell 0
      have c1 := K.out.2.1.cell 1
      have c2 := K.out.2.1.cell 2
      have f0 := K.out.2.1.free 0
      have f1 := K.out.2.1.free 1
      have f2 := K.out.2.1.free 2
      have l2 := K.out.2.2.1.cell 2
      have l3 := K.out.2.2.1.cell 3
      have l4 := K.out.2.2.1.cell 4
      simp [stB, layB] at c0 c1 c2 l2 l3 l4
      replace K := Lib.hid K2
      clear K2
      have hfl := Lib.hid (fun (W : World) => filled_any R L.r (by omega) W)
      have c0 := K.out.2.1.cell 0
      have c1 := K.out.2.1.cell 1
      have c2 := K.out.2.1.cell 2
      have f0 := K.out.2.1.free 0
      have f1 := K.out.2.1.free 1
      have f2 := K.out.2.1.free 2
      have l2 := K.out.2.2.1.cell 2
      have l3 := K.out.2.2.1.cell 3
      have l4 := K.out.2.2.1.cell 4
      simp [stB, layB] at c0 c1 c2 l2 l3 l4
      go_wp2_with (fail)
      refine (hfl.out _).mono ?_
      rintro e w5_ ⟨rfl, hb⟩
      have K1 := K.out.bel hb
      replace K := Lib.hid K1
      clear K1 hb hfl c0 c1 c2 f0 f1 f2 l2 l3 l4
      have K2 := K.out.put hbxw 2 (by decide) (fillS R L.r)
      simp at K2
      have c0 := K.out.2.1.cell 0
      have c1 := K.out.2.1.cell 1
      have c2 := K.out.2.1.cell 2
      have f0 := K.out.2.1.free 0
      have f1 := K.out.2.1.free 1
      have f2 := K.out.2.1.free 2
      have l2 := K.out.2.2.1.cell 2
      have l3 := K.out.2.2.1.cell 3
      have l4 := K.out.2.2.1.cell 4
      simp [stB, layB] at c0 c1 c2 l2 l3 l4
      replace K := Lib.hid K2
      clear K2
      go_wp2_with (fail)
      go_meet
      exact ⟨_, _, _, K⟩
  case' rest =>
    obtain ⟨T0, T1, T2, hcut⟩ := hcut
    clear K
    replace K := hcut
    clear hcut
  refine hK9 _ _ ?_
  clear hK9
  go_wp2_with (fail)
  obtain ⟨B, h, l, Dq⟩ := K.out.1
  refine (keep_yes Dq).mono ?_
  rintro e w6 ⟨rfl, hb⟩
  have K1 := K.out.bel hb
  replace K := Lib.hid K1
  have Dq6 := Dq.bel hb
  have Dq6lt := Lib.hid (⟨Dq6.bk.lt, Dq6.im.by_.lt, Dq6.im.st.lt, K.out.2.1.lt, K.out.2.2.2.size⟩ : q < w6.heap.size ∧ b < w6.heap.size ∧ p < w6.heap.size ∧ bx < w6.heap.size ∧ w.heap.size ≤ w6.heap.size)
  clear K1 hb Dq
  obtain ⟨P3, hP3⟩ : ∃ P, strL L B 3 = P := ⟨_, rfl⟩
  obtain ⟨P4, hP4⟩ : ∃ P, strL L B 4 = P := ⟨_, rfl⟩
  obtain ⟨P5, hP5⟩ : ∃ P, strL L B 5 = P := ⟨_, rfl⟩
  rw [hP3, hP4, hP5]
  have ha := (Below.refl w6.heap.size w6).alloc (Nat.le_refl _) (.cells (stB P3 P4 P5 h l) 23)
  have K7 := K.out.bel ha
  have D7 := Dq6.bel ha
  have W7 := Bk.fresh w6 23 (stB P3 P4 P5 h l)
  unfold stB at ha W7
  obtain ⟨kx, hkx⟩ : ∃ kx, w6.heap.size = kx := ⟨_, rfl⟩
  obtain ⟨bg, hbg⟩ : ∃ bg : Nat, L.k + L.s = bg := ⟨_, rfl⟩
  have hbg2 : bg ≤ 143360 := by have := hok.out; unfold Lay.ok at this; omega
  have hw : IntKind.i64.wrap ((L.k : Int) + (L.s : Int)) = (bg : Int) := by rw [IntKind.wrap_i64]; omega
  have hmk := make_u8 L.u q1
  have hnw := Lib.hid (fun (A : Option Addr) (W : World) => r8new A L.u L.u bg hbg2 W)
  have l0 := K7.2.2.1.cell 0
  have l1 := K7.2.2.1.cell 1
  have l2 := K7.2.2.1.cell 2
  simp [layB] at l0 l1 l2
  unfold stB at l0 l1 l2 K7 D7
  rw [hkx] at W7 Dq6lt
  replace K7 := Lib.hid K7
  replace D7 := Lib.hid D7
  replace W7 := Lib.hid W7
  replace hP3 := Lib.hid hP3
  replace hP4 := Lib.hid hP4
  replace hP5 := Lib.hid hP5
  have hbg' := Lib.hid hbg
  clear ha Dq6 K hbg
  go_upto_region 15 with (fail)
  go_region_held3 (fun w' => w'.cell? ⟨lx, 0, none⟩ = some (.int .i64 L.k) ∧ w'.cell? ⟨lx, 1, none⟩ = some (.int .i64 L.s) ∧ w'.cell? ⟨lx, 2, none⟩ = some (.int .i64 L.u)) (first | (simp [go_sem, *]; done) | go_keep) ((go_at_call 26; (with_reducible refine Calls.mono (hnw.out _ _) ?_); rintro e w8_ ⟨rfl, hr8, hb⟩; have hb0 := (Below.refl (w6.alloc (.cells #[.string P3, .string P4, .string P5, .int .i64 h, .int .i64 l] 23)).heap.size (w6.alloc (.cells #[.string P3, .string P4, .string P5, .int .i64 h, .int .i64 l] 23))).alloc (Nat.le_refl _) (.cells (u8s (List.replicate L.u 0)).toArray 5); have hb2 := Lib.hid (hb0.trans ⟨hb.os, hb.tape, hb.output, hb.size, fun k hk => hb.block k (Nat.lt_of_lt_of_le hk hb0.size)⟩); replace hr8 := Lib.hid hr8; clear hb hb0; have kS : w8_.cell? ⟨lx, 0, none⟩ = some (.int .i64 L.k) ∧ w8_.cell? ⟨lx, 1, none⟩ = some (.int .i64 L.s) ∧ w8_.cell? ⟨lx, 2, none⟩ = some (.int .i64 L.u) := by (have q9 := K7.out.2.2.1.kept hb2.out K7.out.2.2.1.lt; exact ⟨q9.cell 0, q9.cell 1, q9.cell 2⟩)))
  have K8 := K7.out.bel hb2.out
  have D8 := D7.out.bel hb2.out
  have W8 := W7.out.kept hb2.out W7.out.lt
  have s0 := K8.2.1.cell 0
  have s1 := K8.2.1.cell 1
  have s2 := K8.2.1.cell 2
  have s3 := K8.2.1.cell 3
  have s4 := K8.2.1.cell 4
  have l2 := K8.2.2.1.cell 2
  have l3 := K8.2.2.1.cell 3
  have l4 := K8.2.2.1.cell 4
  have v0 := W8.cell 0
  have v1 := W8.cell 1
  have v2 := W8.cell 2
  have v3 := W8.cell 3
  have v4 := W8.cell 4
  simp [stB, layB] at s0 s1 s2 s3 s4 l2 l3 l4 v0 v1 v2 v3 v4
  clear l0 l1 hmk hnw hw
  have F8 : Fin w b q p L f y bx kx T0 T1 T2 x z P3 P4 P5 h l B w8_ := ⟨D8, K8.2.1, by unfold stB; exact W8, K8.2.2.2⟩
  replace F8 := Lib.hid F8
  replace K8 := Lib.hid K8
  replace D8 := Lib.hid D8
  replace W8 := Lib.hid W8
  clear K7 D7 W7 hb2
  go_upto_region 16 with (fail)
  clear K8 D8 W8
  have hr9 := hr8.out
  rw [show ((w6.alloc (.cells #[.string P3, .string P4, .string P5, .int .i64 h, .int .i64 l] 23)).alloc (.cells (u8s (List.replicate L.u 0)).toArray 5)).drew.heap.size = kx + 1 + 1 by (show ((w6.alloc _).alloc _).heap.size = kx + 1 + 1; rw [World.size_alloc, World.size_alloc, hkx])] at hr9
  replace hr8 := Lib.hid hr9
  clear hr9
  by_cases g0 : T0.size = L.u ∧ T1.size = L.d ∧ T2.size = L.r
  · obtain ⟨g0, g1, g2⟩ := g0
    have z0 : ((T0.size : Int) == (L.u : Int)) = true := by simp [g0]
    have z1 : ((T1.size : Int) == (L.d : Int)) = true := by simp [g1]
    have z2 : ((T2.size : Int) == (L.r : Int)) = true := by simp [g2]
    by_cases g3 : backOk f y x z
    · skip
      have g4 : backOk (bg + 8) (bg + L.u) x z := by
        have e1 := hf.out
        have e2 := hy.out
        have e3 := hbg'.out
        rw [show bg + 8 = f by rw [← e1, ← e3]; rfl, show bg + L.u = y by rw [← e2, ← e3]; rfl]
        exact g3
      have hx0 : 0 ≤ x := by have := g3.1; omega
      have hz0 : 0 ≤ z := by have := g3.2.2; omega
      have hbk := Lib.hid (r8back_yes (kx + 1) (kx + 1 + 1) (by omega) _ L.u L.u bg _ _ x z w8_ hbg2 (by have := hok.out; unfold Lay.ok at this; omega) hr8.out g4)
      clear hr8
      replace hx0 := Lib.hid hx0
      replace hz0 := Lib.hid hz0
      replace g0 := Lib.hid g0
      replace g1 := Lib.hid g1
      replace g2 := Lib.hid g2
      replace g3 := Lib.hid g3
      replace g4 := Lib.hid g4
      go_wp2_with (fail)
      refine hbk.out.mono ?_
      rintro e w9_ ⟨rfl, hb⟩
      have ltd := Dq6lt.out
      have F9 := F8.out.kept hb (by omega) (by omega) (by omega) (by omega) (by omega) (by omega)
      have s0 := F9.2.1.cell 0
      have s1 := F9.2.1.cell 1
      have s2 := F9.2.1.cell 2
      have s3 := F9.2.1.cell 3
      have s4 := F9.2.1.cell 4
      simp [stB] at s0 s1 s2 s3 s4
      have hly := Lib.hid (lay_yes F9.1 T0 T1 T2 x z g0.out g1.out g2.out g3.out)
      replace F9 := Lib.hid F9
      clear ltd hb hbk F8 v0 v1 v2 v3 v4 l2 l3 l4
      go_wp2_with (fail)
      refine hly.out.mono ?_
      rintro e w10_ ⟨rfl, D10, O10⟩
      have hrd := laid_read L D10.im.ok B F9.out.1.im.len T0 T1 T2 g0.out g1.out g2.out
      have x10 := O10.bk F9.out.2.1 (F9.out.2.1.ne F9.out.1.im.by_ (by decide)) (F9.out.2.1.ne F9.out.1.bk (by decide))
      have b10 := F9.out.2.2.2.trans (O10.below gb.out gq.out F9.out.2.2.2.size)
      have hkp := keep_yes D10
      rw [hrd.1, hrd.2.1, hrd.2.2, Int.toNat_of_nonneg hx0.out, Int.toNat_of_nonneg hz0.out] at hkp
      replace hkp := Lib.hid hkp
      replace x10 := Lib.hid x10
      replace b10 := Lib.hid b10
      clear D10 O10 hrd s0 s1 s2 s3 s4 hly F9
      go_wp2_with (fail)
      refine hkp.out.mono ?_
      rintro e w11_ ⟨rfl, hb⟩
      have x11 := (x10.out.kept hb x10.out.lt).past (.cells (stB T0 T1 T2 x z) 23)
      have n11 := Bk.fresh w11_ 23 (stB T0 T1 T2 x z)
      have b11 := (b10.out.trans (hb.mono b10.out.size)).alloc (b10.out.trans (hb.mono b10.out.size)).size (.cells (stB T0 T1 T2 x z) 23)
      have s0 := x11.cell 0
      have s1 := x11.cell 1
      have s2 := x11.cell 2
      have s3 := x11.cell 3
      have s4 := x11.cell 4
      have n0 := n11.cell 0
      have n1 := n11.cell 1
      have n2 := n11.cell 2
      have n3 := n11.cell 3
      have n4 := n11.cell 4
      simp [stB] at s0 s1 s2 s3 s4 n0 n1 n2 n3 n4
      unfold stB at b11
      replace b11 := Lib.hid b11
      have heq := fun w => eql_a 23 (.inl rfl) T0 T1 T2 T0 T1 T2 x z x z w true (.inl ⟨rfl, rfl, rfl, rfl, rfl, rfl⟩)
      unfold stateV at heq
      clear x11 n11 hb hkp x10 b10
      go_wp2_with (fail)
      go_returns
      exact ⟨rfl, b11.out⟩
    · skip
      have g4 : ¬ backOk (bg + 8) (bg + L.u) x z := by
        have e1 := hf.out
        have e2 := hy.out
        have e3 := hbg'.out
        rw [show bg + 8 = f by rw [← e1, ← e3]; rfl, show bg + L.u = y by rw [← e2, ← e3]; rfl]
        exact g3
      have hbk := Lib.hid (r8back_bad (kx + 1 + 1) _ L.u L.u bg _ _ x z w8_ hbg2 (by have := hok.out; unfold Lay.ok at this; omega) hr8.out g4)
      clear hr8
      replace g0 := Lib.hid g0
      replace g1 := Lib.hid g1
      replace g2 := Lib.hid g2
      replace g3 := Lib.hid g3
      replace g4 := Lib.hid g4
      go_wp2_with (fail)
      refine hbk.out.mono ?_
      rintro e w9_ ⟨rfl, hb⟩
      have F9 := F8.out.bel hb
      have s0 := F9.2.1.cell 0
      have s1 := F9.2.1.cell 1
      have s2 := F9.2.1.cell 2
      have s3 := F9.2.1.cell 3
      have s4 := F9.2.1.cell 4
      simp [stB] at s0 s1 s2 s3 s4
      have hly := Lib.hid (lay_back F9.1 T0 T1 T2 x z g0.out g1.out g2.out g3.out)
      replace F9 := Lib.hid F9
      clear hb hbk F8 v0 v1 v2 v3 v4 l2 l3 l4
      go_wp2_with (fail)
      refine hly.out.mono ?_
      rintro e w10_ ⟨rfl, hb⟩
      have F10 := F9.out.bel hb
      have hkp := keep_yes F10.1
      rw [hP3.out, hP4.out, hP5.out] at hkp
      replace hkp := Lib.hid hkp
      replace F10 := Lib.hid F10
      clear hb hly F9
      go_wp2_with (fail)
      refine hkp.out.mono ?_
      rintro e w11_ ⟨rfl, hb⟩
      have F11 := (F10.out.bel hb).bel ((Below.refl w11_.heap.size w11_).alloc (Nat.le_refl _) (.cells (stB P3 P4 P5 h l) 23))
      have n11 := Bk.fresh w11_ 23 (stB P3 P4 P5 h l)
      have b11 := F11.2.2.2
      have s0 := F11.2.2.1.cell 0
      have s1 := F11.2.2.1.cell 1
      have s2 := F11.2.2.1.cell 2
      have s3 := F11.2.2.1.cell 3
      have s4 := F11.2.2.1.cell 4
      have n0 := n11.cell 0
      have n1 := n11.cell 1
      have n2 := n11.cell 2
      have n3 := n11.cell 3
      have n4 := n11.cell 4
      simp [stB] at s0 s1 s2 s3 s4 n0 n1 n2 n3 n4
      unfold stB at b11
      replace b11 := Lib.hid b11
      have heq := fun w => eql_a 23 (.inl rfl) P3 P4 P5 P3 P4 P5 h l h l w true (.inl ⟨rfl, rfl, rfl, rfl, rfl, rfl⟩)
      unfold stateV at heq
      clear F11 n11 hb hkp F10
      go_wp2_with (fail)
      go_returns
      exact ⟨rfl, b11.out⟩
  · have hly := Lib.hid (lay_size F8.out.1 T0 T1 T2 x z g0)
    have F9 := F8
    have hcase : ((T0.size : Int) == (L.u : Int)) = false ∨ (((T0.size : Int) == (L.u : Int)) = true ∧ ((T1.size : Int) == (L.d : Int)) = false) ∨ (((T0.size : Int) == (L.u : Int)) = true ∧ ((T1.size : Int) == (L.d : Int)) = true ∧ ((T2.size : Int) == (L.r : Int)) = false) := by
      simp only [beq_iff_eq, beq_eq_false_iff_ne, ne_eq]
      omega
    clear g0 hr8 F8
    rcases hcase with h1 | ⟨h1, h2⟩ | ⟨h1, h2, h3⟩
    all_goals
      go_wp2_with (fail)
      refine hly.out.mono ?_
      rintro e w10_ ⟨rfl, hb⟩
      have F10 := F9.out.bel hb
      have hkp := keep_yes F10.1
      rw [hP3.out, hP4.out, hP5.out] at hkp
      replace hkp := Lib.hid hkp
      replace F10 := Lib.hid F10
      clear hb hly F9
      go_wp2_with (fail)
      refine hkp.out.mono ?_
      rintro e w11_ ⟨rfl, hb⟩
      have F11 := (F10.out.bel hb).bel ((Below.refl w11_.heap.size w11_).alloc (Nat.le_refl _) (.cells (stB P3 P4 P5 h l) 23))
      have n11 := Bk.fresh w11_ 23 (stB P3 P4 P5 h l)
      have b11 := F11.2.2.2
      have s0 := F11.2.2.1.cell 0
      have s1 := F11.2.2.1.cell 1
      have s2 := F11.2.2.1.cell 2
      have s3 := F11.2.2.1.cell 3
      have s4 := F11.2.2.1.cell 4
      have n0 := n11.cell 0
      have n1 := n11.cell 1
      have n2 := n11.cell 2
      have n3 := n11.cell 3
      have n4 := n11.cell 4
      simp [stB] at s0 s1 s2 s3 s4 n0 n1 n2 n3 n4
      unfold stB at b11
      replace b11 := Lib.hid b11
      have heq := fun w => eql_a 23 (.inl rfl) P3 P4 P5 P3 P4 P5 h l h l w true (.inl ⟨rfl, rfl, rfl, rfl, rfl, rfl⟩)
      unfold stateV at heq
      clear F11 n11 hb hkp F10
      go_wp2_with (fail)
      go_returns
      exact ⟨rfl, b11.out⟩
end Go.Proofs.YtpbloennjcjgoaaDoor
