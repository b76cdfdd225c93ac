import Derived.Test.YtpbloennjcjgoaaDoorKmN
import Derived.Test.YtpbloennjcjgoaaDoorKlG
import Derived.Sort.CutIn
import Derived.Test.YtpbloennjcjgoaaDoorPostRec
namespace Go.Proofs.YtpbloennjcjgoaaDoor
open Go.RowKit Go.Shelf
attribute [local go_sem] Oper.semAt_some
attribute [local go_sem high] run_eqW1 run_eqW2
set_option linter.unusedVariables false
set_option linter.unusedSimpArgs false
/-! ResetKeeps -/
/-- the list is somewhere, the result's box, nothing else -/
def Kr (w : World) (b d p : Nat) (L : Lay) (f y q : Nat) (W : World) : Prop := (∃ B h l, Dc W d p b L 3 f y B false false h l) ∧ Bk W q 4 #[.bool false] ∧ Below w.heap.size w W
theorem Kr.goes {w W W' : World} {b d p : Nat} {L : Lay} {f y q : Nat} (K : Kr w b d p L f y q W) (hb : w.heap.size ≤ b) (hd : w.heap.size ≤ d) (G : Goes d p b L f y W W') : Kr w b d p L f y q W' := by
  obtain ⟨⟨B, h, l, D⟩, h1, h3⟩ := K
  obtain ⟨B', h', l', D', hO⟩ := G
  exact ⟨⟨B', h', l', D'⟩, hO.bk h1 (h1.ne D.im.by_ (by decide)) (h1.ne D.bk (by decide)), h3.trans (hO.below hb hd h3.size)⟩
set_option maxHeartbeats 8000000 in
set_option maxRecDepth 100000 in
theorem walk_keeps (dd : Int) (A : Option Addr) (n c : Nat) (A2 : Option Addr) (n2 c2 : Nat) (ch : UInt8) (w : World) (hM : Mark w) (hdI : inI dd) (ho : Ops16 w A n) (ho2 : Ops16 w A2 n2) :
    Calls Tryd.prog 8 #[.int .i64 dd, .slice A n c, .slice A2 n2 c2, .int .u8 (ch.toNat : Int)] w fun e w' => e = .returned (.bool true) ∧ Below w.heap.size w w' := by
  have hn := ho.1
  have hops := Lib.hid ho.2
  have hn2 := ho2.1
  have hops2 := Lib.hid ho2.2
  have hn4 : (n : Int) ≤ 140737488351232 := by omega
  have hn24 : (n2 : Int) ≤ 140737488351232 := by omega
  have hlay := fun w1 => layout16_any dd w1 hdI
  have hbeg := fun w1 => begun16 dd w1
  have hok := layOf16_ok dd
  have hLk : (layOf16 dd).k = 16384 := rfl
  obtain ⟨L, hL⟩ : ∃ L, layOf16 dd = L := ⟨_, rfl⟩
  simp only [hL] at hlay hbeg hok hLk
  clear hL hdI ho ho2
  unfold LV layV at hlay hbeg
  replace hlay := Lib.hid hlay
  replace hbeg := Lib.hid hbeg
  replace hok := Lib.hid hok
  replace hLk := Lib.hid hLk
  refine (callsIn_wide (n := 8)).1 ?_
  refine callsIn_of_wp_marks Tryd.func8 rfl trivial ?_ rfl
  simp only [Tryd.ntmps8, List.size_toArray, List.length_cons, List.length_nil, Nat.reduceAdd, Nat.reduceSub, Array.replicate_succ, Array.replicate_zero, List.push_toArray, List.append_toArray, List.nil_append, List.cons_append]
  have hB0 : Below w.heap.size w (w.alloc (.cells #[.bool false] 4)) := (Below.refl _ _).alloc (Nat.le_refl _) _
  have hsh := shown_any _ (hM.kept hB0 hM.1)
  replace hsh := Lib.hid hsh
  gi_wp2_with (refine ⟨trivial, ?_⟩; gi_at_call 9; refine (callsIn_wide.2 hsh.out).mono ?_; rintro e w1 ⟨rfl, hB⟩)
  have r0 := (Bk.fresh w 4 #[.bool false]).kept hB (by simp)
  have hBw := hB0.trans (hB.mono hB0.size)
  obtain ⟨q, hq⟩ : ∃ q, w.heap.size = q := ⟨_, rfl⟩
  rw [hq] at r0 ⊢
  clear hB hB0 hM hsh
  refine ⟨trivial, ?_⟩
  refine (callsIn_wide.2 (hlay.out _)).mono ?_
  rintro e w2 ⟨rfl, hO⟩
  replace r0 := r0.kept hO r0.lt
  replace hBw := hBw.trans (hO.mono hBw.size)
  clear hO
  gi_wp2_with (fail)
  refine ⟨trivial, ?_⟩
  refine (callsIn_wide.2 (hbeg.out _)).mono ?_
  rintro e w4 ⟨p, b, d, rfl, hI, hDq, z1, z2, z3, hO⟩
  have m := Lay.mono hok.out
  have D : Dc w4 d p b L 3 (L.beg 3 + 8) (L.beg 4) (List.replicate L.b6 0) false false (L.beg 3 + 8) 0 :=
    ⟨hI, hDq, .inr rfl, rfl, rfl, Nat.le_refl _, by show L.b3 + 8 ≤ L.b4; have := hok.out; unfold Lay.ok at this; unfold Lay.b4; omega, .inl rfl⟩
  obtain ⟨f, hf⟩ : ∃ f, L.beg 3 + 8 = f := ⟨_, rfl⟩
  obtain ⟨y, hy⟩ : ∃ y, L.beg 4 = y := ⟨_, rfl⟩
  rw [hf, hy] at D
  replace r0 := r0.kept hO r0.lt
  have gb : w.heap.size ≤ b := Nat.le_trans hBw.size z2
  have gd : w.heap.size ≤ d := Nat.le_trans hBw.size z3
  have hf100 : 100 < L.b3 := by
    have h1 : L.b3 = L.k + L.s := rfl
    have h2 := hLk.out
    omega
  have hf0 : 0 < f := by omega
  have K : Kr w b d p L f y q w4 := ⟨⟨_, _, _, D⟩, r0, hBw.trans (hO.mono hBw.size)⟩
  replace K := Lib.hid K
  replace hf := Lib.hid hf
  replace hy := Lib.hid hy
  clear hO hI hDq z1 z2 z3 r0 hBw D m hbeg hlay
  gi_upto_region 5 with (fail)
  gi_cut [12] from 42 (fun s12 wx => s12 = .int .i64 0 ∧ wx = w4)
  case first =>
    gi_wp2_with (fail)
    gi_meet
    case rel => exact ⟨rfl, rfl⟩
  case' rest =>
    obtain ⟨rfl, hwx⟩ := hcut
    replace hwx := hwx.symm
    subst hwx
  rename_i hKK
  refine hKK _ _ ?_
  clear hKK
  gi_cut [12] from 42 (fun s12 wx => Hid (Kr w b d p L f y q wx))
  case first =>
    gi_wp2_with (fail)
    gi_loopw [12] (fun x_ wr => ∃ j : Nat, x_ = .int .i64 j ∧ j ≤ n ∧ j ≤ 60 ∧ Hid (Kr w b d p L f y q wr)) (fun x_ _ => n - (intOf x_).toNat)
    case atStart => exact ⟨0, rfl, Nat.zero_le _, by decide, K⟩
    case round =>
      obtain ⟨j, rfl, hj1, hj2, hQ⟩ := hrel
      clear K
      by_cases hj : j < n ∧ j < 60
      · have j0 : (j : Int) < (n : Int) := by omega
        have j1 : (j : Int) < 60 := by omega
        obtain ⟨bb, off, v0, v1, v2, rfl, hbl, o0, o1, o2, g0, g1, g2⟩ := hops.out j hj.1
        have hB := hQ.out.2.2
        replace o0 := (hB.cell (p := ⟨bb, off + j * 3, none⟩) hbl).trans o0
        replace o1 := (hB.cell (p := ⟨bb, off + j * 3 + 1, none⟩) hbl).trans o1
        replace o2 := (hB.cell (p := ⟨bb, off + j * 3 + 2, none⟩) hbl).trans o2
        have hdo : Calls Tryd.prog 24 #[.pointer (some ⟨p, 0, none⟩), .pointer (some ⟨d, 0, none⟩), .agg #[.int .i64 v0, .int .i64 v1, .string v2]] wr fun e w' => e = .returned (.tuple #[]) ∧ Goes d p b L f y wr w' := by
          obtain ⟨⟨B, h, l, Dq⟩, _⟩ := hQ.out
          exact does_any Dq v0 v1 v2 g0 g1 g2
        replace hdo := Lib.hid hdo
        clear hbl hB g0 g1 g2
        gi_wp2_with (fail)
        refine ⟨trivial, ?_⟩
        refine (callsIn_wide.2 hdo.out).mono ?_
        rintro e w9 ⟨rfl, G⟩
        have hn9 := hQ.out.goes gb gd G
        clear G hdo o0 o1 o2
        replace hn9 := Lib.hid hn9
        gi_wp2_with (fail)
        exact ⟨⟨j + 1, rfl, by omega, by omega, hn9⟩, by simp [intOf]; omega⟩
      · have hcond : (¬ (j : Int) < (n : Int)) ∨ ((j : Int) < (n : Int) ∧ ¬ (j : Int) < 60) := by omega
        rcases hcond with h1 | ⟨h1, h2⟩
        all_goals
          gi_wp2_with (fail)
          gi_meet
          case rel => exact hQ
  case' rest =>
    clear hops K
    replace K := hcut
    clear hcut
  apply_assumption
  obtain ⟨⟨B0, h0, l0, D⟩, r0, hB⟩ := K.out
  have hkp := keep_yes D
  have hB0len := D.im.len
  obtain ⟨Z3, Z4, Z5⟩ := strL_sizes hok.out hB0len
  obtain ⟨X, hX⟩ : ∃ X, walkP B0 f y l0 = X := ⟨_, rfl⟩
  have hwl := fun (B : List UInt8) (hB : B.length = L.b6) => walk_laid (l := l0) hok.out hB0len hB hf.out.symm hy.out.symm
  simp only [hX] at hwl
  obtain ⟨P3, hP3⟩ : ∃ P, strL L B0 3 = P := ⟨_, rfl⟩
  obtain ⟨P4, hP4⟩ : ∃ P, strL L B0 4 = P := ⟨_, rfl⟩
  obtain ⟨P5, hP5⟩ : ∃ P, strL L B0 5 = P := ⟨_, rfl⟩
  simp only [hP3, hP4, hP5] at hkp Z3 Z4 Z5 hwl
  replace hwl := Lib.hid hwl
  gi_wp2_with (fail)
  refine ⟨trivial, ?_⟩
  refine (callsIn_wide.2 hkp).mono ?_
  rintro e w5 ⟨rfl, hb⟩
  have D5 := D.bel hb
  have r5 := r0.kept hb r0.lt
  have hB5 := hB.trans (hb.mono hB.size)
  clear hb hkp D r0 hB K
  gi_wp2_with (fail)
  have ha := (Below.refl w5.heap.size w5).alloc (Nat.le_refl _) (.cells (stB P3 P4 P5 h0 l0) 23)
  have D6 := D5.bel ha
  have r6 := r5.kept ha r5.lt
  have hB6 := hB5.trans (ha.mono hB5.size)
  have kS := Bk.fresh w5 23 (stB P3 P4 P5 h0 l0)
  have gkx : w.heap.size ≤ w5.heap.size := hB5.size
  unfold stB at D6 r6 hB6 kS
  obtain ⟨kx, hkx⟩ : ∃ kx, w5.heap.size = kx := ⟨_, rfl⟩
  obtain ⟨w6, hw6⟩ : ∃ w6, w5.alloc (.cells #[.string P3, .string P4, .string P5, .int .i64 h0, .int .i64 l0] 23) = w6 := ⟨_, rfl⟩
  rw [hw6] at D6 r6 hB6 kS
  rw [hkx] at kS gkx
  rw [hw6, hkx]
  clear ha D5 r5 hB5 hw6 hkx
  refine ⟨trivial, ?_⟩
  refine (callsIn_wide.2 (mark_any D6)).mono ?_
  rintro e w7 ⟨rfl, n7, hw7⟩
  have D7 := D6.draws n7
  have r7 := r6.draws n7
  have kS7 := kS.draws n7
  have hB7 := below_drawn hB6 n7
  rw [← hw7] at D7 r7 kS7 hB7
  clear hw7 D6 r6 kS hB6
  have s0 := kS7.cell 0
  have s1 := kS7.cell 1
  have s2 := kS7.cell 2
  have s3 := kS7.cell 3
  have s4 := kS7.cell 4
  simp at s0 s1 s2 s3 s4
  have hq3 := fun m => Part_any (D7.draws m).im 3
  have hq4 := fun m => Part_any (D7.draws m).im 4
  have hq5 := fun m => Part_any (D7.draws m).im 5
  unfold strL at hP3 hP4 hP5
  simp only [hP3] at hq3
  simp only [hP4] at hq4
  simp only [hP5] at hq5
  have g3 : (P3.toList != P3.toList) = false := by simp
  have g4 : (P4.toList != P4.toList) = false := by simp
  have g5 : (P5.toList != P5.toList) = false := by simp
  replace hq3 := Lib.hid hq3
  replace hq4 := Lib.hid hq4
  replace hq5 := Lib.hid hq5
  replace hP3 := Lib.hid hP3
  replace hP4 := Lib.hid hP4
  replace hP5 := Lib.hid hP5
  gi_upto_region 11 with (fail)
  refine wpIn_wide.2 ?_
  go_quiet ((first | (go_at_call 29; with_reducible exact Calls.quiet_of (hq3.out _)) | (go_at_call 29; with_reducible exact Calls.quiet_of (hq4.out _)) | (go_at_call 29; with_reducible exact Calls.quiet_of (hq5.out _))))
  have D8 := D7.draws nq
  have r8 := r7.draws nq
  have kS8 := kS7.draws nq
  have hB8 := below_drawn hB7 nq
  obtain ⟨w8, hw8⟩ : ∃ w8, w7.drewN nq = w8 := ⟨_, rfl⟩
  rw [hw8] at D8 r8 kS8 hB8
  rw [hw8]
  clear hw8 D7 r7 kS7 hB7 s0 s1 s2 s3 s4 hq3 hq4 hq5 g3 g4 g5
  gi_wp2_with (fail)
  refine ⟨trivial, ?_⟩
  refine (callsIn_wide.2 (all_any d _)).mono ?_
  rintro e w9 ⟨rfl, hw9⟩
  have a1 := Bk.fresh w8 67 #[.slice none 0 0]
  have a2 := Bk.fresh (w8.alloc (.cells #[.slice none 0 0] 67)) 45 #[.pointer (some ⟨d, 0, none⟩)]
  have hB9 : Below w8.heap.size w8 w9 := by rw [hw9]; exact ((Below.refl _ _).alloc (Nat.le_refl _) _).alloc (by simp) _
  have a1 := a1.past (.cells #[.pointer (some ⟨d, 0, none⟩)] 45)
  rw [← hw9] at a1 a2
  rw [World.size_alloc] at a2
  have hz9 : w9.heap.size = w8.heap.size + 2 := by rw [hw9]; simp
  have D9 := D8.bel hB9
  have r9 := r8.kept hB9 r8.lt
  have kS9 := kS8.kept hB9 kS8.lt
  have hBb := hB8.size
  have hBq := hB8.trans (hB9.mono hB8.size)
  rw [World.size_alloc]
  obtain ⟨lb, hlb⟩ : ∃ lb, w8.heap.size = lb := ⟨_, rfl⟩
  rw [hlb] at a1 a2 hz9 hBb ⊢
  have hqw : w.heap.size ≤ q := Nat.le_of_eq hq
  clear hw9 hB9 D8 r8 kS8 hB8 hlb
  have hIa : Ia w lb q kx d p b L f y B0 h0 l0 P3 P4 P5 w9.heap.size [] w9 := ⟨⟨none, 0, a1, World.ownsRow_nil _ _ _ _⟩, r9, kS9, hBq, D9, Nat.le_refl _⟩
  have hX1 : X.length ≤ 1000000 := by
    rw [← hX]
    have := walkP_len B0 f y l0 D9.ok.2.2.1
    have := D9.la
    have := D9.ok
    omega
  gi_wp2_with (fail)
  refine range_all2 8 107 18 (lb + 1) lb (by decide) (fun i => i = lb) (fun i e => by rw [e]; omega) rfl a1 rfl D9 a2 (Ia w lb q kx d p b L f y B0 h0 l0 P3 P4 P5 w9.heap.size) (fun c pre W => False) (Ia.own _ hBq.size) (fun c => ownFrom_pure _ _) hIa ?assign ?body ?done ?stop
  case assign =>
    rintro l pre x W K hi hK
    have r0 := Bk.fresh W 72 (wdC wd0).toArray
    have hBa : Below W.heap.size W (W.alloc (.cells (wdC wd0).toArray 72)) := (Below.refl _ _).alloc (Nat.le_refl _) _
    obtain ⟨g, hg⟩ : ∃ g, W.heap.size = g := ⟨_, rfl⟩
    obtain ⟨V, hV⟩ : ∃ V, W.alloc (.cells (wdC wd0).toArray 72) = V := ⟨_, rfl⟩
    rw [hV] at r0 hBa
    rw [hg] at r0
    have hV' : W.alloc (.cells #[.string ⟨#[]⟩, .int .i64 0, .int .i64 0, .bool false, .bool false, .bool false] 72) = V := hV
    have hB6 : Below W.heap.size W (set6 V g x.1) := set6_below hBa (by omega)
    have hKK := hK g (set6 V g x.1) (by rw [← hg]; exact hi.lo) (set6_bk (y := x.1) r0) (KeepsFrom.of_grownBy (grown_below hB6) (by simp)) (Kd.of_below hB6) (hi.kept hB6)
    have e0 := r0.cell 0
    have e1 := r0.cell 1
    have e2 := r0.cell 2
    have e3 := r0.cell 3
    have e4 := r0.cell 4
    have e5 := r0.cell 5
    simp [wdC, wd0] at e0 e1 e2 e3 e4 e5
    have f0 := r0.free 0
    have f1 := r0.free 1
    have f2 := r0.free 2
    have f3 := r0.free 3
    have f4 := r0.free 4
    have f5 := r0.free 5
    unfold set6 at hKK
    replace hKK := Lib.hid hKK
    clear hV hB6 hBa r0 hK hi
    simp only [wdV, List.setIfInBounds_toArray, List.set_cons_zero, List.set_cons_succ] at hKK ⊢
    gi_wp2
    exact hKK.out
  case body =>
    rintro l' pre x Bx W hl hBx bX hi hlt
    rw [hX] at hlt
    obtain ⟨A3, c3, h1, h2⟩ := hi.lst
    have hWz := hi.lo
    obtain ⟨A4, c4, W2, hrun, hc2, hKF, hKD, hI2⟩ := hi.push x (by exact hBq.size) hBb (by omega) h1 h2
    have s0 := h1.cell 0
    simp at s0
    have s1 := h1.free 0
    have b0 := bX.cell 0
    have b1 := bX.cell 1
    have b2 := bX.cell 2
    have b3 := bX.cell 3
    have b4 := bX.cell 4
    have b5 := bX.cell 5
    simp [wdC] at b0 b1 b2 b3 b4 b5
    have t0 := hc2.cell 0
    simp at t0
    have t1 := hc2.free 0
    clear hc2
    have hfin := Lib.hid (And.intro hKF (And.intro hKD hI2))
    unfold wdC at hrun
    replace hrun := Lib.hid hrun
    clear hi hKF hKD hI2 h1 h2 bX
    simp only [wdV, List.setIfInBounds_toArray, List.set_cons_zero, List.set_cons_succ]
    gi_wp2_with (gi_at_builtin; refine wpListIn_append_run rfl (.tmp 108) (.tmp 110) 67 rfl (.slice A3 pre.length c3) _ _ rfl rfl hrun.out ?_)
    exact hfin.out
  case stop =>
    rintro D' c pre W hD hpre h hW
    exact h.elim
  case done =>
    rintro D' ys W hD hys hi hW
    have hyl : ys.length = X.length := by rw [← hX, ← hys, List.length_map]
    rw [hX] at hys
    obtain ⟨A3, c3, h1, h2⟩ := hi.lst
    rw [hyl] at h1 h2
    rw [hys] at h2
    have hPz : Pz w lb q kx D' A3 c3 X P3 P4 P5 h0 l0 W := ⟨h1, h2, hi.res, hi.st, hi.bel, hW⟩
    have D := hi.dc
    have hDw : w.heap.size ≤ D' := Nat.le_trans hBq.size hD
    have hqD : q < D' := Nat.lt_of_lt_of_le r9.lt hD
    replace hPz := Lib.hid hPz
    clear hi h1 h2 hW hys hyl D9 r9 kS9 hBq hIa a1 a2
    gi_wp2_with (fail)
    have hsb := setbyte_yes D.im 100 ch (ok100 hok.out hLk.out 2)
    have h100 : (B0.set 100 ch).getD 100 0 = ch := by rw [getD_set, if_pos ⟨rfl, by rw [D.im.len]; have m := Lay.mono hok.out; omega⟩]
    refine ⟨trivial, ?_⟩
    refine (callsIn_wide.2 hsb).mono ?_
    rintro e W1 ⟨rfl, hI1, hO1⟩
    have D1 := D.turn hI1 hO1
    have hP1 := hPz.out.onb D gb gd (Onb.ofb hO1)
    have hbk : backOk f y h0 l0 := ⟨by have := D.lo; omega, by have := D.hi; omega, by have := D.la; omega⟩
    have K : Kz w lb q kx D' A3 c3 X P3 P4 P5 h0 l0 b d p L f y ch W1 := ⟨⟨_, _, _, D1, h100⟩, hP1⟩
    replace K := Lib.hid K
    replace hbk := Lib.hid hbk
    clear D hPz D1 hP1 h100 hI1 hO1 hsb
    gi_upto_region 18 with (fail)
    gi_cut [19] from 115 (fun s19 wx => s19 = .int .i64 0 ∧ wx = W1)
    case first =>
      gi_wp2_with (fail)
      gi_meet
      case rel => exact ⟨rfl, rfl⟩
    case' rest =>
      obtain ⟨rfl, hwx⟩ := hcut
      replace hwx := hwx.symm
      subst hwx
    rename_i hKK
    refine hKK _ _ ?_
    clear hKK
    gi_cut [19] from 115 (fun s19 wx => Hid (Kz w lb q kx D' A3 c3 X P3 P4 P5 h0 l0 b d p L f y ch wx))
    case first =>
      gi_wp2_with (fail)
      gi_loopw [19] (fun x_ wr => ∃ j : Nat, x_ = .int .i64 j ∧ j ≤ n2 ∧ j ≤ 60 ∧ Hid (Kz w lb q kx D' A3 c3 X P3 P4 P5 h0 l0 b d p L f y ch wr)) (fun x_ _ => n2 - (intOf x_).toNat)
      case atStart => exact ⟨0, rfl, Nat.zero_le _, by decide, K⟩
      case round =>
        obtain ⟨j, rfl, hj1, hj2, hQ⟩ := hrel
        clear K
        by_cases hj : j < n2 ∧ j < 60
        · have j0 : (j : Int) < (n2 : Int) := by omega
          have j1 : (j : Int) < 60 := by omega
          obtain ⟨bb, off, v0, v1, v2, rfl, hbl, o0, o1, o2, g0, g1, g2⟩ := hops2.out j hj.1
          have hB := hQ.out.2.bel
          replace o0 := (hB.cell (p := ⟨bb, off + j * 3, none⟩) hbl).trans o0
          replace o1 := (hB.cell (p := ⟨bb, off + j * 3 + 1, none⟩) hbl).trans o1
          replace o2 := (hB.cell (p := ⟨bb, off + j * 3 + 2, none⟩) hbl).trans o2
          have hdo : Calls Tryd.prog 24 #[.pointer (some ⟨p, 0, none⟩), .pointer (some ⟨d, 0, none⟩), .agg #[.int .i64 v0, .int .i64 v1, .string v2]] wr fun e w' => e = .returned (.tuple #[]) ∧ GoesC ch d p b L f y wr w' := by
            obtain ⟨⟨B, h, l, Dq, hq100⟩, _⟩ := hQ.out
            exact does_anyC Dq hq100 hf100 v0 v1 v2 g0 g1 g2
          replace hdo := Lib.hid hdo
          clear hbl hB g0 g1 g2
          gi_wp2_with (fail)
          refine ⟨trivial, ?_⟩
          refine (callsIn_wide.2 hdo.out).mono ?_
          rintro e w9 ⟨rfl, G⟩
          have hn9 := hQ.out.goes gb gd G
          clear G hdo o0 o1 o2
          replace hn9 := Lib.hid hn9
          gi_wp2_with (fail)
          exact ⟨⟨j + 1, rfl, by omega, by omega, hn9⟩, by simp [intOf]; omega⟩
        · have hcond : (¬ (j : Int) < (n2 : Int)) ∨ ((j : Int) < (n2 : Int) ∧ ¬ (j : Int) < 60) := by omega
          rcases hcond with h1 | ⟨h1, h2⟩
          all_goals
            gi_wp2_with (fail)
            gi_meet
            case rel => exact hQ
    case' rest =>
      clear hops2 K
      replace K := hcut
      clear hcut
    apply_assumption
    obtain ⟨⟨B1, h1, l1, D, h100⟩, H⟩ := K.out
    clear K
    have hly := lay_yes D P3 P4 P5 h0 l0 Z3 Z4 Z5 hbk.out
    simp only [Int.toNat_natCast] at hly
    have hB1 := D.im.len
    have hwk := hwl.out B1 hB1
    have hb100 := lay_100 L hok.out B1 hB1 hf100 P3 P4 P5 Z3 Z4 Z5
    rw [h100] at hb100
    have hrd := laid_read L hok.out B1 hB1 P3 P4 P5 Z3 Z4 Z5
    obtain ⟨B2, hB2⟩ : ∃ B2, (splice (splice (splice B1 (L.from_ 3) P3.data.toList) (L.from_ 4) P4.data.toList) (L.from_ 5) P5.data.toList) = B2 := ⟨_, rfl⟩
    rw [hB2] at hly hwk hb100 hrd
    obtain ⟨rd3, rd4, rd5⟩ := hrd
    have kS := H.st
    unfold stB at kS
    have s0 := kS.cell 0
    have s1 := kS.cell 1
    have s2 := kS.cell 2
    have s3 := kS.cell 3
    have s4 := kS.cell 4
    simp at s0 s1 s2 s3 s4
    replace hly := Lib.hid hly
    clear hwl hB2 hB1 h100 hbk kS
    gi_wp2_with (fail)
    refine ⟨trivial, ?_⟩
    refine (callsIn_wide.2 hly.out).mono ?_
    rintro e W2 ⟨rfl, D2, O2⟩
    have H2 := H.onb D gb gd O2
    have hkp := keep_yes D2
    rw [rd3, rd4, rd5] at hkp
    clear H D O2 hly s0 s1 s2 s3 s4 rd3 rd4 rd5
    replace hkp := Lib.hid hkp
    gi_wp2_with (fail)
    refine ⟨trivial, ?_⟩
    refine (callsIn_wide.2 hkp.out).mono ?_
    rintro e W3 ⟨rfl, hb3⟩
    have D3 := D2.bel hb3
    have H3 := H2.bel' hb3
    clear D2 H2 hb3 hkp
    gi_wp2_with (fail)
    have ha := (Below.refl W3.heap.size W3).alloc (Nat.le_refl _) (.cells (stB P3 P4 P5 h0 l0) 23)
    have D4 := D3.bel ha
    have H4 := H3.bel' ha
    have kT := Bk.fresh W3 23 (stB P3 P4 P5 h0 l0)
    have gkx2 : w.heap.size ≤ W3.heap.size := H3.bel.size
    obtain ⟨kx2, hkx2⟩ : ∃ kx2, W3.heap.size = kx2 := ⟨_, rfl⟩
    obtain ⟨W4, hW4⟩ : ∃ W4, W3.alloc (.cells (stB P3 P4 P5 h0 l0) 23) = W4 := ⟨_, rfl⟩
    rw [hW4] at D4 H4 kT
    rw [hkx2] at kT gkx2
    unfold stB at hW4
    rw [hW4, hkx2]
    clear ha D3 H3 hW4 hkx2
    have hby := byte_yes D4.im 100 ch (ok100 hok.out hLk.out 1) hb100
    refine ⟨trivial, ?_⟩
    refine (callsIn_wide.2 hby).mono ?_
    rintro e W5 ⟨rfl, hw5⟩
    subst hw5
    clear hby
    gi_wp2_with (fail)
    have hPl := Lib.hid H4
    refine ⟨trivial, ?_⟩
    refine (callsIn_wide.2 (all_any d _)).mono ?_
    rintro e W6 ⟨rfl, hw6⟩
    have a1 := Bk.fresh W5 3 #[.int .i64 0]
    have a2 := Bk.fresh (W5.alloc (.cells #[.int .i64 0] 3)) 45 #[.pointer (some ⟨d, 0, none⟩)]
    have hB6 : Below W5.heap.size W5 W6 := by rw [hw6]; exact ((Below.refl _ _).alloc (Nat.le_refl _) _).alloc (by simp) _
    have a1 := a1.past (.cells #[.pointer (some ⟨d, 0, none⟩)] 45)
    rw [← hw6] at a1 a2
    rw [World.size_alloc] at a2
    have hz6 : W6.heap.size = W5.heap.size + 2 := by rw [hw6]; simp
    have D6 := D4.bel hB6
    have H6 := H4.bel' hB6
    have kT6 := kT.kept hB6 kT.lt
    have hcw : w.heap.size ≤ W5.heap.size := H4.bel.size
    rw [World.size_alloc]
    obtain ⟨cx, hcx⟩ : ∃ cx, W5.heap.size = cx := ⟨_, rfl⟩
    rw [hcx] at a1 a2 hz6 hcw ⊢
    clear hw6 hB6 D4 H4 kT hcx hPl
    have hDl : D' < W6.heap.size := (Array.getElem?_eq_some_iff.1 H6.de).1
    have hIb : Ib w lb q kx kx2 cx d p b D' A3 c3 X P3 P4 P5 h0 l0 L f y B2 W6.heap.size [] W6 := ⟨List.nil_prefix, a1, H6, kT6, D6, Nat.le_refl _⟩
    have h6w := H6.bel.size
    gi_wp2_with (fail)
    refine range_all 8 150 24 (cx + 1) (by decide) (fun i => i = cx) (fun i e => by rw [e]; omega) rfl rfl D6 a2 (Ib w lb q kx kx2 cx d p b D' A3 c3 X P3 P4 P5 h0 l0 L f y B2 W6.heap.size) (fun c pre W => c = .ret ∧ ¬ pre.map (·.1) <+: X) (Ib.own _ h6w hDl) (fun c => ownFrom_pure _ _) hIb ?assign2 ?body2 ?done2 ?stop2
    case assign2 =>
      rintro l pre x W K hi hK
      have r0 := Bk.fresh W 72 (wdC wd0).toArray
      have hBa : Below W.heap.size W (W.alloc (.cells (wdC wd0).toArray 72)) := (Below.refl _ _).alloc (Nat.le_refl _) _
      obtain ⟨g, hg⟩ : ∃ g, W.heap.size = g := ⟨_, rfl⟩
      obtain ⟨V, hV⟩ : ∃ V, W.alloc (.cells (wdC wd0).toArray 72) = V := ⟨_, rfl⟩
      rw [hV] at r0 hBa
      rw [hg] at r0
      have hV' : W.alloc (.cells #[.string ⟨#[]⟩, .int .i64 0, .int .i64 0, .bool false, .bool false, .bool false] 72) = V := hV
      have hB6 : Below W.heap.size W (set6 V g x.1) := set6_below hBa (by omega)
      have hKK := hK g (set6 V g x.1) (by rw [← hg]; exact hi.lo) (set6_bk (y := x.1) r0) (KeepsFrom.of_grownBy (grown_below hB6) (by simp)) (Kc.of_below hB6) (hi.kept hB6)
      have e0 := r0.cell 0
      have e1 := r0.cell 1
      have e2 := r0.cell 2
      have e3 := r0.cell 3
      have e4 := r0.cell 4
      have e5 := r0.cell 5
      simp [wdC, wd0] at e0 e1 e2 e3 e4 e5
      have f0 := r0.free 0
      have f1 := r0.free 1
      have f2 := r0.free 2
      have f3 := r0.free 3
      have f4 := r0.free 4
      have f5 := r0.free 5
      unfold set6 at hKK
      replace hKK := Lib.hid hKK
      clear hV hB6 hBa r0 hK hi
      simp only [wdV, List.setIfInBounds_toArray, List.set_cons_zero, List.set_cons_succ] at hKK ⊢
      gi_wp2
      exact hKK.out
    case body2 =>
      rintro l' pre x Bx W hl hBx bX hi hlt
      rw [hwk] at hlt
      obtain ⟨yy, hyy⟩ : ∃ yy, X[pre.length]? = some yy := ⟨_, List.getElem?_eq_getElem hlt⟩
      have hPs := pre_snoc hi.pfx x
      have hno := not_pre x hyy
      obtain ⟨gq, hA2, hcell⟩ := row_cell2 hi.pz.row hyy
      have hX2 : X.length ≤ 9223372036854775807 := Nat.le_trans hX1 (by decide)
      obtain ⟨j, hj⟩ : ∃ j, pre.length = j := ⟨_, rfl⟩
      rw [hj] at hcell hlt
      have hjI : (j : Int) < X.length := by omega
      have hjI2 : ¬ (j : Int) ≥ X.length := by omega
      have hj0 : (0 : Int) ≤ j := by omega
      have hj00 : ¬ (j : Int) < 0 := by omega
      have w1 : IntKind.i64.wrap ((j : Int) + 1) = ((j + 1 : Nat) : Int) := by rw [IntKind.wrap_i64]; omega
      have c0 := hi.cnt.cell 0
      simp at c0
      rw [hj] at c0
      have c1 := hi.cnt.free 0
      have s0 := hi.pz.lst.cell 0
      simp at s0
      rw [hA2] at s0
      have r6 := hi.pz.res.cell 0
      simp at r6
      have r7 := hi.pz.res.free 0
      have b0 := bX.cell 0
      have b1 := bX.cell 1
      have b2 := bX.cell 2
      have b3 := bX.cell 3
      have b4 := bX.cell 4
      have b5 := bX.cell 5
      simp [wdC] at b0 b1 b2 b3 b4 b5
      have z0 : W.cell? ⟨gq, j * 6, none⟩ = some (.string yy.name) := hcell 0 (by omega)
      have z1 : W.cell? ⟨gq, j * 6 + 1, none⟩ = some (.int .i64 yy.hd) := hcell 1 (by omega)
      have z2 : W.cell? ⟨gq, j * 6 + 2, none⟩ = some (.int .i64 yy.xt) := hcell 2 (by omega)
      have z3 : W.cell? ⟨gq, j * 6 + 3, none⟩ = some (.bool yy.imm) := hcell 3 (by omega)
      have z4 : W.cell? ⟨gq, j * 6 + 4, none⟩ = some (.bool yy.hid) := hcell 4 (by omega)
      have z5 : W.cell? ⟨gq, j * 6 + 5, none⟩ = some (.bool yy.inl) := hcell 5 (by omega)
      obtain ⟨bb, hbb⟩ : ∃ bb, eqW ⟨x.1.name, x.1.hd, x.1.xt, x.1.imm, x.1.hid, x.1.inl⟩ ⟨yy.name, yy.hd, yy.xt, yy.imm, yy.hid, yy.inl⟩ = bb := ⟨_, rfl⟩
      simp only [wdV, List.setIfInBounds_toArray, List.set_cons_zero, List.set_cons_succ]
      have hiH := Lib.hid hi
      replace hPs := Lib.hid hPs
      replace hno := Lib.hid hno
      replace hj := Lib.hid hj
      replace hyy := Lib.hid hyy
      clear hi hcell hlt bX hX2 hA2
      cases bb
      all_goals
        gi_upto_region 29 with (fail)
        refine region_round rfl (by kernel_rfl) (by kernel_rfl) (by kernel_rfl) ?_
        repeat (gi_big_quiet_step (fail))
        refine wpQuietIn_nil ?_
        rintro _ ⟨nq, rfl⟩
        have hKF : KeepsOthers W (W.drewN nq) := ⟨Nat.le_refl _, fun k o hk _ => hk⟩
        have hKC := Kc.of_below (X := fun i => i = cx) (below_drawn (Below.refl _ W) nq)
        replace hKF := Lib.hid hKF
        replace hKC := Lib.hid hKC
        gi_wp2_with (fail)
        first
        | exact ⟨(hKF.out.trans (KeepsOthers.setCell _ _ _)).from _, rfl, hno.out (fun e => by
            have := (eqW_iff _ _).2 e
            rw [show eqW x.1 yy = false from hbb] at this
            cases this)⟩
        | (have h9 := (hiH.out.kept (below_drawn (Below.refl _ W) nq)).put hcw x (hPs.out (by rw [hyy.out]; exact congrArg some ((eqW_iff _ _).1 hbb).symm))
           have e9 : ((j + 1 : Nat) : Int) = (j : Int) + 1 := by omega
           rw [hj.out, e9] at h9
           rw [hz6] at h9
           exact ⟨(hKF.out.trans (KeepsOthers.setCell _ _ _)).from _, hKC.out.t (Kc.of_set cx (q := ⟨cx, 0, none⟩) _ rfl), h9⟩)
    case done2 =>
      rintro D2 ys W hD2 hys hi hW
      have hyl : ys.length = X.length := by rw [← hwk, ← hys, List.length_map]
      have c0 := hi.cnt.cell 0
      simp at c0
      rw [hyl] at c0
      have r6 := hi.pz.res.cell 0
      simp at r6
      have r7 := hi.pz.res.free 0
      have l0c := hi.pz.lst.cell 0
      simp at l0c
      have kS := hi.pz.st
      have kT := hi.st2
      unfold stB at kS kT
      have s0 := kS.cell 0
      have s1 := kS.cell 1
      have s2 := kS.cell 2
      have s3 := kS.cell 3
      have s4 := kS.cell 4
      have t0 := kT.cell 0
      have t1 := kT.cell 1
      have t2 := kT.cell 2
      have t3 := kT.cell 3
      have t4 := kT.cell 4
      simp at s0 s1 s2 s3 s4 t0 t1 t2 t3 t4
      have heq := fun w => eql_a 23 (.inl rfl) P3 P4 P5 P3 P4 P5 h0 l0 h0 l0 w true (.inl ⟨rfl, rfl, rfl, rfl, rfl, rfl⟩)
      unfold stateV at heq
      have hsm := fun w => r16_same_any P3 P4 P5 P3 P4 P5 h0 l0 h0 l0 w true (.inl ⟨rfl, rfl, rfl, rfl, rfl, rfl⟩)
      unfold stateV at hsm
      replace hsm := Lib.hid hsm
      replace hi := Lib.hid hi
      replace hW := Lib.hid hW
      clear kS kT
      gi_wp2_with (fail)
      refine ⟨trivial, ?_⟩
      refine (callsIn_wide.2 (hsm.out _)).mono ?_
      rintro e W7 ⟨rfl, hB7⟩
      have hi7 := hi.out.kept hB7
      have hW7 := (hB7.block D2 (Array.getElem?_eq_some_iff.1 hW.out).1).trans hW.out
      clear c0 r6 r7 l0c s0 s1 s2 s3 s4 t0 t1 t2 t3 t4 hsm
      have c0 := hi7.cnt.cell 0
      simp at c0
      rw [hyl] at c0
      have r6 := hi7.pz.res.cell 0
      simp at r6
      have r7 := hi7.pz.res.free 0
      have l0c := hi7.pz.lst.cell 0
      simp at l0c
      have hd7 := hi7.pz.de
      have hD2l : D' < D2 := Nat.lt_of_lt_of_le hDl hD2
      clear hi hW hB7
      replace hi7 := Lib.hid hi7
      replace hd7 := Lib.hid hd7
      replace hW7 := Lib.hid hW7
      gi_wp2_with (fail)
      have k1 := hi7.out.pz.res.put 0 (.bool true)
      have hW' := (KeepsOthers.setCell W7 ⟨q, 0, none⟩ (.bool true)).same D2 _ hW7.out rfl
      have hd' := (KeepsOthers.setCell W7 ⟨q, 0, none⟩ (.bool true)).same D' _ hd7.out rfl
      have hB1 := (hi7.out.pz.bel.setCell (p := ⟨q, 0, none⟩) hqw (.bool true)).trans (belowK_b (w := w) (Nat.le_refl _) _ D2 (.deferred (some [])) (.deferred none) (by omega) hW' rfl rfl)
      have z1 := k1.grown (grownBy_putObj' _ D2 (.deferred none)) (by simp; omega)
      have hd2 := ((grownBy_putObj' (W7.setCell ⟨q, 0, none⟩ (.bool true)) D2 (.deferred none)).block D' (Array.getElem?_eq_some_iff.1 hd').1 (by simp; omega)).trans hd'
      have hBz := hB1.trans (belowK_b (w := w) (Nat.le_refl _) _ D' (.deferred (some [])) (.deferred none) (by omega) hd2 rfl rfl)
      have z2 := z1.grown (grownBy_putObj' _ D' (.deferred none)) (by simp; omega)
      have y0 := z2.cell 0
      simp at y0
      refine ⟨by simp, .inl ⟨_, _, rfl, run_takeDeferred hW', ?_⟩⟩
      refine ⟨by simp, .inl ⟨_, _, rfl, run_takeDeferred hd2, ?_⟩⟩
      refine ⟨_, ?_, rfl, hBz⟩
      simp [results, Tryd.f8, go_sem, y0]
    case stop2 =>
      rintro D2 c pre W hD hpre ⟨rfl, hno⟩ hW
      exact (hno (by rw [← hwk]; exact hpre)).elim
end Go.Proofs.YtpbloennjcjgoaaDoor

namespace Go.Proofs.YtpbloennjcjgoaaDoor
open Go.RowKit
/-! ResetKeeps: the walk at the values as the row hands them -/
theorem walk_keeps2 (dd : Int) (A : Option Addr) (n c : Nat) (A2 : Option Addr) (n2 c2 : Nat) (k : Int) (w : World) (hM : Mark w) (hd : (Lit.int .i64 dd).wf = true) (ho : Ops16 w A n) (ho2 : Ops16 w A2 n2) (hk : (Lit.int .u8 k).wf = true) :
    Calls Tryd.prog 8 #[.int .i64 dd, .slice A n c, .slice A2 n2 c2, .int .u8 k] w fun e w' => e = .returned (.bool true) ∧ Below w.heap.size w w' := by
  obtain ⟨ch, rfl⟩ := rec_byte k hk
  have hdI : inI dd := by simpa [inI, Lit.wf, IntKind.min, IntKind.max, IntKind.signed, IntKind.bits] using hd
  exact walk_keeps dd A n c A2 n2 c2 ch w hM hdI ho ho2
end Go.Proofs.YtpbloennjcjgoaaDoor
