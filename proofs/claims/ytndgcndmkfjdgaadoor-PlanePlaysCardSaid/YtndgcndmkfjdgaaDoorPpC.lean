import Derived.Test.YtndgcndmkfjdgaaDoorPpB
import Derived.Test.YtndgcndmkfjdgaaDoorPostOps10
import Derived.Test.YtndgcndmkfjdgaaDoorPick
namespace Go.Proofs.YtndgcndmkfjdgaaDoor
open Go.RowKit Go.Extern.Stop Go.Stop Go.Extern
set_option linter.unusedVariables false
set_option linter.unusedSimpArgs false
/-! PlanePlays -/
theorem Tt.base {W : World} {base base' t : Nat} {V : Value} {a v : Pt} {dn : Bool} {ms : List Mk} (T : Tt W base t V a v dn ms) (h : base' ≤ base) : Tt W base' t V a v dn ms := ⟨T.bk, own_base T.row h, T.sa, T.un, T.ok, T.le⟩
theorem Rt_.base {W : World} {base base' t : Nat} {V : Value} {a v : Pt} {dn : Bool} {ms : List Mk} (T : Rt_ W base t V a v dn ms) (h : base' ≤ base) : Rt_ W base' t V a v dn ms := ⟨T.bk, own_base T.row h⟩
def s0 : St := ⟨(0, 0), (1, 0), true, []⟩
theorem fo_sel {W : World} {g x y t0 r0 t1 r1 : Nat} {V U V' U' : Value} {s s' : St} (F : Fo W g x y #[.pointer (some ⟨t0, 0, none⟩), .pointer (some ⟨t1, 0, none⟩)] #[.pointer (some ⟨r0, 0, none⟩), .pointer (some ⟨r1, 0, none⟩)] t0 r0 t1 r1 V U V' U' s s s' s') (k : Nat) (hk : k < 2) :
    ∃ (t r : Nat) (A1 : Option Addr) (c1 : Nat) (V : Value) (s : St), TtS W g t V s ∧ RtS W g r (.slice A1 s.ms.length c1) s ∧ W.cell? ⟨x, k, none⟩ = some (.pointer (some ⟨t, 0, none⟩)) ∧ W.cell? ⟨y, k, none⟩ = some (.pointer (some ⟨r, 0, none⟩)) ∧ x < W.heap.size ∧ y < W.heap.size := by
  obtain ⟨A1, c1, rfl⟩ := own_form F.p2.row
  obtain ⟨A2, c2, rfl⟩ := own_form F.p4.row
  rcases (by omega : k = 0 ∨ k = 1) with rfl | rfl
  · exact ⟨t0, r0, A1, c1, _, s, F.p1, F.p2, F.p5.cell 0, F.p6.cell 0, F.p5.lt, F.p6.lt⟩
  · exact ⟨t1, r1, A2, c2, _, s', F.p3, F.p4, F.p5.cell 1, F.p6.cell 1, F.p5.lt, F.p6.lt⟩
set_option maxRecDepth 100000 in
set_option maxHeartbeats 40000000 in
theorem walk_pplays (A : Option Addr) (n c : Nat) (w : World) (hM : True) (h : Ops10 w A n) : Calls Tryd.prog 6 #[.slice A n c] w fun e w' => e = .returned (.bool true) ∧ Below w.heap.size w w' := by
  have hn := h.1
  have hops := Lib.hid h.2
  have hn4 : (n : Int) ≤ 140737488351232 := by omega
  have hsh := Lib.hid (shown_any w)
  have e0 : ∃ g, w.heap.size = g := ⟨_, rfl⟩
  clear h hM
  go_enter Tryd.func6, Tryd.ntmps6
  go_wp2_with (fail)
  refine hsh.out.mono ?_
  rintro e w1 ⟨rfl, hB1⟩
  replace hB1 := Lib.hid hB1
  clear hsh
  go_wp2_with (fail)
  refine (tnew w1).mono ?_
  rintro e w2 ⟨rfl, T0, hb⟩
  have hB2 := hB1.out.trans (hb.mono hB1.out.size)
  obtain ⟨t0, ht0⟩ : ∃ t0, w1.heap.size = t0 := ⟨_, rfl⟩
  have gt0 : w.heap.size ≤ t0 := by rw [← ht0]; exact hB1.out.size
  rw [ht0] at T0 ⊢
  replace hB2 := Lib.hid hB2
  replace T0 := Lib.hid T0
  replace gt0 := Lib.hid gt0
  clear hb hB1 ht0
  go_wp2_with (fail)
  refine (tnew w2).mono ?_
  rintro e w3 ⟨rfl, T1, hb⟩
  have hB3 := hB2.out.trans (hb.mono hB2.out.size)
  have T0b := T0.out.bel hb
  have h01 : t0 ≠ w2.heap.size := by have := T0.out.bk.lt; omega
  obtain ⟨t1, ht1⟩ : ∃ t1, w2.heap.size = t1 := ⟨_, rfl⟩
  have gt1 : w.heap.size ≤ t1 := by rw [← ht1]; exact hB2.out.size
  rw [ht1] at T1 h01 ⊢
  have ha := (Below.refl w3.heap.size w3).alloc (Nat.le_refl _) (.cells #[.pointer (some ⟨t0, 0, none⟩), .pointer (some ⟨t1, 0, none⟩)] 39)
  have T0c := T0b.bel ha
  have T1c := T1.bel ha
  have P5 := Bk.fresh w3 39 #[.pointer (some ⟨t0, 0, none⟩), .pointer (some ⟨t1, 0, none⟩)]
  have hB4 := hB3.trans (ha.mono hB3.size)
  obtain ⟨w4, hw4⟩ : ∃ w4, w3.alloc (.cells #[.pointer (some ⟨t0, 0, none⟩), .pointer (some ⟨t1, 0, none⟩)] 39) = w4 := ⟨_, rfl⟩
  obtain ⟨x, hx⟩ : ∃ x, w3.heap.size = x := ⟨_, rfl⟩
  rw [hw4] at T0c T1c P5 hB4
  rw [hx] at P5
  replace hw4 := Lib.hid hw4
  replace h01 := Lib.hid h01
  replace gt1 := Lib.hid gt1
  replace T0c := Lib.hid T0c
  replace T1c := Lib.hid T1c
  replace P5 := Lib.hid P5
  replace hB4 := Lib.hid hB4
  clear ha T0b T1 T0 hb hB3 hB2 ht1
  go_wp2_with (fail)
  rw [hw4.out]
  refine (rnew w4).mono ?_
  rintro e w5 ⟨rfl, R0, hb⟩
  have hB5 := hB4.out.trans (hb.mono hB4.out.size)
  have T0d := T0c.out.bel hb
  have T1d := T1c.out.bel hb
  have P5d := P5.out.kept hb P5.out.lt
  obtain ⟨r0, hr0⟩ : ∃ r0, w4.heap.size = r0 := ⟨_, rfl⟩
  have gr0 : w.heap.size ≤ r0 := by rw [← hr0]; exact hB4.out.size
  rw [hr0] at R0 ⊢
  replace hB5 := Lib.hid hB5
  replace R0 := Lib.hid R0
  replace gr0 := Lib.hid gr0
  replace T0d := Lib.hid T0d
  replace T1d := Lib.hid T1d
  replace P5d := Lib.hid P5d
  clear hb hB4 hr0 T0c T1c P5 hw4 hx
  go_wp2_with (fail)
  refine (rnew w5).mono ?_
  rintro e w6 ⟨rfl, R1, hb⟩
  have hB6 := hB5.out.trans (hb.mono hB5.out.size)
  have T0e := T0d.out.bel hb
  have T1e := T1d.out.bel hb
  have P5e := P5d.out.kept hb P5d.out.lt
  have R0e := R0.out.bel hb
  have h23 : r0 ≠ w5.heap.size := by have := R0.out.bk.lt; omega
  obtain ⟨r1, hr1⟩ : ∃ r1, w5.heap.size = r1 := ⟨_, rfl⟩
  have gr1 : w.heap.size ≤ r1 := by rw [← hr1]; exact hB5.out.size
  rw [hr1] at R1 h23 ⊢
  have ha := (Below.refl w6.heap.size w6).alloc (Nat.le_refl _) (.cells #[.pointer (some ⟨r0, 0, none⟩), .pointer (some ⟨r1, 0, none⟩)] 50)
  have P6 := Bk.fresh w6 50 #[.pointer (some ⟨r0, 0, none⟩), .pointer (some ⟨r1, 0, none⟩)]
  have hB7 := hB6.trans (ha.mono hB6.size)
  have F : Fo (w6.alloc (.cells #[.pointer (some ⟨r0, 0, none⟩), .pointer (some ⟨r1, 0, none⟩)] 50)) w.heap.size x w6.heap.size #[.pointer (some ⟨t0, 0, none⟩), .pointer (some ⟨t1, 0, none⟩)] #[.pointer (some ⟨r0, 0, none⟩), .pointer (some ⟨r1, 0, none⟩)] t0 r0 t1 r1 (.slice none 0 0) (.slice none 0 0) (.slice none 0 0) (.slice none 0 0) s0 s0 s0 s0 :=
    ⟨P5e.kept ha P5e.lt, P6, (T0e.bel ha).base gt0.out, (R0e.bel ha).base gr0.out, (T1e.bel ha).base gt1.out, (R1.bel ha).base gr1, h01.out, h23, fun k hk => by simp [Value.ownBlock] at hk, fun k hk => by simp [Value.ownBlock] at hk, gt0.out, gr0.out, gt1.out, gr1⟩
  obtain ⟨w7, hw7⟩ : ∃ w7, w6.alloc (.cells #[.pointer (some ⟨r0, 0, none⟩), .pointer (some ⟨r1, 0, none⟩)] 50) = w7 := ⟨_, rfl⟩
  obtain ⟨y, hy⟩ : ∃ y, w6.heap.size = y := ⟨_, rfl⟩
  rw [hw7, hy] at F
  rw [hw7] at hB7
  have c0 := F.p5.cell 0
  have c1 := F.p5.cell 1
  simp at c0 c1
  have hne := fun (w : World) => (by kernel_rfl : (binOp .eql 39 (.pointer (some ⟨t0, 0, none⟩)) (.pointer none)).run Tryd.prog w = .ok (.bool false) w)
  rw [← hw7] at c0 c1
  replace hw7 := Lib.hid hw7
  replace F := Lib.hid F
  replace hB7 := Lib.hid hB7
  clear ha T0e T1e P5e R0e R1 P6 hb hB6 hB5 hr1 T0d T1d P5d R0 h01 h23 gt0 gt1 gr0 gr1
  go_upto_region 6 with (fail)
  rw [hw7.out]
  go_cut [6] from 37 to 189 (fun s6 wx => s6 = .int .i64 0 ∧ wx = w7)
  case first =>
    go_wp2_with (fail)
    go_meet
    exact ⟨rfl, rfl⟩
  case' rest =>
    obtain ⟨rfl, hwx⟩ := hcut
    replace hwx := hwx.symm
    subst hwx
  rename_i hKK
  refine hKK _ _ ?_
  clear hKK
  have hst : Hid (∃ V U V' U' s s', Fo w7 w.heap.size x y #[.pointer (some ⟨t0, 0, none⟩), .pointer (some ⟨t1, 0, none⟩)] #[.pointer (some ⟨r0, 0, none⟩), .pointer (some ⟨r1, 0, none⟩)] t0 r0 t1 r1 V U V' U' s s s' s' ∧ Below w.heap.size w w7) := Lib.hid ⟨_, _, _, _, _, _, F.out, hB7.out⟩
  clear F hB7 c0 c1 hw7 hy hne
  go_cut [2, 6, 7, 8, 9, 10] from 37 to 189 (fun s2 s6 s7 s8 s9 s10 wx => Hid (∃ V U V' U' s s', Fo wx w.heap.size x y #[.pointer (some ⟨t0, 0, none⟩), .pointer (some ⟨t1, 0, none⟩)] #[.pointer (some ⟨r0, 0, none⟩), .pointer (some ⟨r1, 0, none⟩)] t0 r0 t1 r1 V U V' U' s s s' s' ∧ Below w.heap.size w wx))
  case' rest =>
    as_aux_lemma =>
      clear hst hops
      go_wp2_with (fail)
      go_loopw [11] (fun x_ wr => ∃ k : Nat, x_ = .int .i64 k ∧ k ≤ 2 ∧ Hid (∃ V U V' U' s s', Fo wr w.heap.size x y #[.pointer (some ⟨t0, 0, none⟩), .pointer (some ⟨t1, 0, none⟩)] #[.pointer (some ⟨r0, 0, none⟩), .pointer (some ⟨r1, 0, none⟩)] t0 r0 t1 r1 V U V' U' s s s' s' ∧ Below w.heap.size w wr)) (fun x_ _ => 2 - (intOf x_).toNat)
      case atStart => exact ⟨0, rfl, by decide, hcut⟩
      case round =>
        obtain ⟨k, rfl, hk0, hP⟩ := hrel
        by_cases hk : k < 2
        · have k0 : (k : Int) < 2 := by omega
          obtain ⟨V, U, V', U', s, s', F, hW⟩ := hP.out
          obtain ⟨t, r, A1, c1, V9, s9, T, R, cx, cy, xl, yl⟩ := fo_sel F k hk
          have hend := fun W (hb : Below wr.heap.size wr W) => (⟨V, U, V', U', s, s', F.bel hb, hW.trans (hb.mono hW.size)⟩ : ∃ V U V' U' s s', Fo W w.heap.size x y #[.pointer (some ⟨t0, 0, none⟩), .pointer (some ⟨t1, 0, none⟩)] #[.pointer (some ⟨r0, 0, none⟩), .pointer (some ⟨r1, 0, none⟩)] t0 r0 t1 r1 V U V' U' s s s' s' ∧ Below w.heap.size w W)
          obtain ⟨⟨a1, a2⟩, ⟨u1, u2⟩, dn, ms⟩ := s9
          obtain ⟨m, hm⟩ : ∃ m, ms.length = m := ⟨_, rfl⟩
          simp only [hm] at R
          have hle : m ≤ 4096 := by rw [← hm]; exact T.le
          have hR := (own_rks (hm ▸ R.row)).2
          have hI : ∀ z ∈ ms, inR z := fun z hz => by
            obtain ⟨i, hi, rfl⟩ := List.getElem_of_mem hz
            have := T.ok i hi
            rw [List.getD_eq_getElem?_getD, List.getElem?_eq_getElem hi] at this
            exact ⟨this.1, this.2.1⟩
          have c5 := R.bk.cell 5
          simp at c5
          have rl := R.bk.lt
          have hS : ∀ W, Below wr.heap.size wr W → (W.cell? ⟨x, k, none⟩ = some (.pointer (some ⟨t, 0, none⟩)) ∧ W.cell? ⟨y, k, none⟩ = some (.pointer (some ⟨r, 0, none⟩))) ∧ W.cell? ⟨r, 5, none⟩ = some (.slice A1 m c1) := fun W hb =>
            ⟨⟨(hb.cell (p := ⟨x, k, none⟩) xl).trans cx, (hb.cell (p := ⟨y, k, none⟩) yl).trans cy⟩, (hb.cell (p := ⟨r, 5, none⟩) rl).trans c5⟩
          have hmk := fun W (hb : Below wr.heap.size wr W) => tmarks (Tt.bel T hb)
          simp only [hm] at hmk
          have hsm := fun W (hb : Below wr.heap.size wr W) (A : Option Addr) (c : Nat) (hA : Mks W A (ms.map mkW)) => same_marks A A1 ms m c c1 W hm (by omega) hA (hR.kept hb) hI
          have hlt := T.dr.lt
          clear T R F hW cx cy xl yl c5 rl hI hR hP V U V' U' s s' V9
          replace hend := Lib.hid hend
          replace hS := Lib.hid hS
          replace hmk := Lib.hid hmk
          replace hsm := Lib.hid hsm
          replace hlt := Lib.hid hlt
          replace hm := Lib.hid hm
          obtain ⟨Wr, hWr⟩ : ∃ Wr, Wr = wr := ⟨_, rfl⟩
          obtain ⟨⟨cx, cy⟩, cr⟩ := hS.out wr (Below.refl _ _)
          have hb0 := hmk.out wr (Below.refl _ _)
          replace hb0 := Lib.hid hb0
          subst hWr
          go_wp2_with (fail)
          refine hb0.out.mono ?_
          rintro e w8 ⟨A8, c8, rfl, hown, hb⟩
          have hA := (own_mks hown hlt.out).2
          have hs1 := Lib.hid (hsm.out w8 hb A8 c8 hA)
          obtain ⟨⟨ex, ey⟩, er⟩ := hS.out w8 hb
          replace hown := Lib.hid hown
          replace hb := Lib.hid hb
          clear hA hb0 cx cy cr
          go_wp2_with (fail)
          refine hs1.out.mono ?_
          rintro e w9 ⟨rfl, hb9⟩
          have hown9 := own_below hown.out hb9 (Nat.le_refl _)
          have hb10 := hb.out.trans (hb9.mono hb.out.size)
          have hkeep : m = 0 ∨ ∃ (gA : Nat) (cur : Array Value), A8 = some ⟨gA, 0, none⟩ ∧ Wr.heap.size ≤ gA ∧ Bk w9 gA 65 cur ∧ 2 * m ≤ cur.size := by
            rcases hown9.2 with ⟨_, h0⟩ | ⟨gA, cap, cur, e, hb0, hg0, hnc, _, hcs, _⟩
            · exact .inl h0
            · injection e with e1 _ _
              exact .inr ⟨gA, cur, e1, hb0, hg0, by omega⟩
          have hlp : Hid (Below Wr.heap.size Wr w9 ∧ (m = 0 ∨ ∃ (gA : Nat) (cur : Array Value), A8 = some ⟨gA, 0, none⟩ ∧ Wr.heap.size ≤ gA ∧ Bk w9 gA 65 cur ∧ 2 * m ≤ cur.size)) := Lib.hid ⟨hb10, hkeep⟩
          clear hown9 hb10 hkeep hb9 hs1 hown hb ex ey er
          have hm4 : (m : Int) ≤ 4096 := by omega
          go_wp2_with (fail)
          go_loopw [14] (fun x_ wq => ∃ i : Nat, x_ = .int .i64 i ∧ i ≤ m ∧ Hid (Below Wr.heap.size Wr wq ∧ (m = 0 ∨ ∃ (gA : Nat) (cur : Array Value), A8 = some ⟨gA, 0, none⟩ ∧ Wr.heap.size ≤ gA ∧ Bk wq gA 65 cur ∧ 2 * m ≤ cur.size))) (fun x_ _ => m - (intOf x_).toNat)
          case atStart => exact ⟨0, rfl, Nat.zero_le _, hlp⟩
          case round =>
            obtain ⟨i, rfl, hi0, hL⟩ := hrel
            clear hlp
            by_cases hi : i < m
            · have i0 : (i : Int) < (m : Int) := by omega
              obtain ⟨gA, cur, rfl, hgA, hK, hcs⟩ := hL.out.2.resolve_left (by omega)
              have q0 : wr.cell? ⟨gA, i * 2, none⟩ = some (cur[i * 2]'(by omega)) := (hK.cell (i * 2)).trans (Array.getElem?_eq_getElem (by omega))
              have q1 : wr.cell? ⟨gA, i * 2 + 1, none⟩ = some (cur[i * 2 + 1]'(by omega)) := (hK.cell (i * 2 + 1)).trans (Array.getElem?_eq_getElem (by omega))
              have q2 := hK.free (i * 2)
              have q3 := hK.free (i * 2 + 1)
              have hK2 := (hK.put (i * 2) (.complex .f64 4621256167635550208 0)).put (i * 2 + 1) (.complex .f64 0 0)
              have hB2 := (hL.out.1.setCell (p := ⟨gA, i * 2, none⟩) hgA (.complex .f64 4621256167635550208 0)).setCell (p := ⟨gA, i * 2 + 1, none⟩) hgA (.complex .f64 0 0)
              obtain ⟨y0_, hy0_⟩ : ∃ y, cur[i * 2]'(by omega) = y := ⟨_, rfl⟩
              obtain ⟨y1_, hy1_⟩ : ∃ y, cur[i * 2 + 1]'(by omega) = y := ⟨_, rfl⟩
              rw [hy0_] at q0
              rw [hy1_] at q1
              have hnx := Lib.hid (⟨hB2, .inr ⟨gA, _, rfl, hgA, hK2, by simp; omega⟩⟩ : Below Wr.heap.size Wr _ ∧ (m = 0 ∨ ∃ (gA' : Nat) (cur : Array Value), some (⟨gA, 0, none⟩ : Addr) = some ⟨gA', 0, none⟩ ∧ Wr.heap.size ≤ gA' ∧ Bk _ gA' 65 cur ∧ 2 * m ≤ cur.size))
              clear hK hK2 hB2 hL hy0_ hy1_
              go_wp2_with (fail)
              exact ⟨⟨i + 1, rfl, by omega, hnx⟩, by simp [intOf]; omega⟩
            · have i0 : ¬ (i : Int) < (m : Int) := by omega
              have hb := hL.out.1
              have hb0 := Lib.hid (hmk.out wr.drew (below_drew hb))
              obtain ⟨⟨cx, cy⟩, cr⟩ := hS.out wr hb
              replace hb := Lib.hid hb
              clear hL
              go_upto_region 39 with (fail)
              go_region_held3 (fun w' => (w'.cell? ⟨x, k, none⟩ = some (.pointer (some ⟨t, 0, none⟩)) ∧ w'.cell? ⟨y, k, none⟩ = some (.pointer (some ⟨r, 0, none⟩))) ∧ w'.cell? ⟨r, 5, none⟩ = some (.slice A1 m c1)) (go_keep) ((first | (go_at_call 24; (with_reducible refine Calls.mono hb0.out ?_); rintro e w1_ ⟨A9, c9, rfl, hown, hb1⟩; have hA := (own_mks hown hlt.out).2; replace hb := Lib.hid ((below_drew hb.out).trans (hb1.mono (below_drew hb.out).size)); have hs1 := Lib.hid (hsm.out w1_ hb.out A9 c9 hA); clear hown hA hb1; have kS1 : (w1_.cell? ⟨x, k, none⟩ = some (.pointer (some ⟨t, 0, none⟩)) ∧ w1_.cell? ⟨y, k, none⟩ = some (.pointer (some ⟨r, 0, none⟩))) ∧ w1_.cell? ⟨r, 5, none⟩ = some (.slice A1 m c1) := hS.out w1_ hb.out) | (go_at_call 34; (with_reducible refine Calls.mono hs1.out ?_); rintro e w2_ ⟨rfl, hb1⟩; replace hb := Lib.hid (hb.out.trans (hb1.mono hb.out.size)); have kS2 : (w2_.cell? ⟨x, k, none⟩ = some (.pointer (some ⟨t, 0, none⟩)) ∧ w2_.cell? ⟨y, k, none⟩ = some (.pointer (some ⟨r, 0, none⟩))) ∧ w2_.cell? ⟨r, 5, none⟩ = some (.slice A1 m c1) := hS.out w2_ hb.out)))
              clear cx cy cr hb0
              go_wp2_with (fail)
              exact ⟨⟨k + 1, rfl, by omega, Lib.hid (hend.out _ hb.out)⟩, by simp [intOf]; omega⟩
        · have k0 : ¬ (k : Int) < 2 := by omega
          obtain ⟨V, U, V', U', s, s', F, hW⟩ := hP.out
          go_wp2_with (fail)
          go_returns
          exact ⟨rfl, hW⟩
  go_wp2_with (fail)
  go_loopw [6] (fun x_ wr => ∃ j : Nat, x_ = .int .i64 j ∧ j ≤ n ∧ j ≤ 6000 ∧ Hid (∃ V U V' U' s s', Fo wr w.heap.size x y #[.pointer (some ⟨t0, 0, none⟩), .pointer (some ⟨t1, 0, none⟩)] #[.pointer (some ⟨r0, 0, none⟩), .pointer (some ⟨r1, 0, none⟩)] t0 r0 t1 r1 V U V' U' s s s' s' ∧ Below w.heap.size w wr)) (fun x_ _ => n - (intOf x_).toNat)
  case atStart => exact ⟨0, rfl, Nat.zero_le _, by decide, hst⟩
  case round =>
    obtain ⟨j, rfl, hj1, hj2, hQ⟩ := hrel
    clear hst
    by_cases hj : j < n ∧ j < 6000
    · have j0 : (j : Int) < (n : Int) := by omega
      have j1 : (j : Int) < 6000 := by omega
      obtain ⟨V, U, V', U', s, s', F, hW⟩ := hQ.out
      obtain ⟨b, off, v0, v1, v2, rfl, hbl, o0, o1, o2, hv0, hv1, hv2⟩ := hops.out j hj.1
      replace o0 := (hW.cell (p := ⟨b, off + j * 3, none⟩) hbl).trans o0
      replace o1 := (hW.cell (p := ⟨b, off + j * 3 + 1, none⟩) hbl).trans o1
      replace o2 := (hW.cell (p := ⟨b, off + j * 3 + 2, none⟩) hbl).trans o2
      have hpk := Lib.hid (fun W => pick_any v0 2 W hv0.1 hv0.2 (by decide) (by decide))
      have hpq := Lib.hid (fun W => pick_any v1 6 W hv1.1 hv1.2 (by decide) (by decide))
      have hk := pickN_lt v0 2 (by decide)
      have hq := pickN_lt v1 6 (by decide)
      have e2 : (2 : Int).toNat = 2 := rfl
      have e6 : (6 : Int).toNat = 6 := rfl
      rw [e2] at hpk
      rw [e6] at hpq
      obtain ⟨k, hkk⟩ : ∃ k, pickN v0 2 = k := ⟨_, rfl⟩
      obtain ⟨q, hqq⟩ : ∃ q, pickN v1 6 = q := ⟨_, rfl⟩
      rw [hkk] at hpk hk
      rw [hqq] at hpq hq
      clear hkk hqq hbl hv0 hv1 e2 e6
      have hsel : ∃ t r t' r' V U V' U' s s', Fo wr w.heap.size x y #[.pointer (some ⟨t0, 0, none⟩), .pointer (some ⟨t1, 0, none⟩)] #[.pointer (some ⟨r0, 0, none⟩), .pointer (some ⟨r1, 0, none⟩)] t r t' r' V U V' U' s s s' s' ∧ (#[Value.pointer (some ⟨t0, 0, none⟩), .pointer (some ⟨t1, 0, none⟩)])[k]? = some (.pointer (some ⟨t, 0, none⟩)) ∧ (#[Value.pointer (some ⟨r0, 0, none⟩), .pointer (some ⟨r1, 0, none⟩)])[k]? = some (.pointer (some ⟨r, 0, none⟩)) ∧
          ∀ W V U V' U' s s', Fo W w.heap.size x y #[.pointer (some ⟨t0, 0, none⟩), .pointer (some ⟨t1, 0, none⟩)] #[.pointer (some ⟨r0, 0, none⟩), .pointer (some ⟨r1, 0, none⟩)] t r t' r' V U V' U' s s s' s' → ∃ V U V' U' s s', Fo W w.heap.size x y #[.pointer (some ⟨t0, 0, none⟩), .pointer (some ⟨t1, 0, none⟩)] #[.pointer (some ⟨r0, 0, none⟩), .pointer (some ⟨r1, 0, none⟩)] t0 r0 t1 r1 V U V' U' s s s' s' := by
        rcases (by omega : k = 0 ∨ k = 1) with rfl | rfl
        · exact ⟨t0, r0, t1, r1, _, _, _, _, _, _, F, rfl, rfl, fun W V U V' U' s s' h => ⟨_, _, _, _, _, _, h⟩⟩
        · exact ⟨t1, r1, t0, r0, _, _, _, _, _, _, F.swap, rfl, rfl, fun W V U V' U' s s' h => ⟨_, _, _, _, _, _, h.swap⟩⟩
      clear F V U V' U' s s' hQ
      obtain ⟨t, r, t', r', V, U, V', U', s, s', F, hx, hy, hback⟩ := hsel
      generalize #[Value.pointer (some ⟨t0, 0, none⟩), .pointer (some ⟨t1, 0, none⟩)] = X at *
      generalize #[Value.pointer (some ⟨r0, 0, none⟩), .pointer (some ⟨r1, 0, none⟩)] = Y at *
      have hk2 : (k : Int) < 2 := by omega
      replace hback := Lib.hid hback
      replace F := Lib.hid F
      replace hW := Lib.hid hW
      replace hx := Lib.hid hx
      replace hy := Lib.hid hy
      go_wp2_with (fail)
      refine (hpk.out _).mono ?_
      rintro e w8 ⟨rfl, rfl⟩
      go_upto_region 10 with (fail)
      go_cut [8] from 37 to 189 (fun s8 wx => s8 = .int .i64 v2 ∧ wx = w8)
      case first =>
        go_wp2_with (fail)
        go_meet
        exact ⟨rfl, rfl⟩
      case' rest =>
        obtain ⟨rfl, hwx⟩ := hcut
        replace hwx := hwx.symm
        subst hwx
      rename_i hKK
      refine hKK _ _ ?_
      clear hKK
      refine wp_seq_k ?_
      intro K9 hK9
      go_cut [8] from 37 to 189 (fun s8 wx => Hid (∃ V U V' U' s s', Fo wx w.heap.size x y X Y t r t' r' V U V' U' s s s' s' ∧ Below w.heap.size w wx))
      case' rest =>
        as_aux_lemma =>
          obtain ⟨V, U, V', U', s2, s', F2, hW2⟩ := hcut.out
          replace F := Lib.hid F2
          replace hW := Lib.hid hW2
          clear F2 hW2 hcut hpk hpq o0 o1 o2
          obtain ⟨⟨a1, a2⟩, ⟨u1, u2⟩, dn, ms⟩ := s2
          have sa := F.out.p1.sa
          have sv := F.out.p1.un.sm
          simp only at sa sv
          have hi1 := Lib.hid (fun W => is_ok (a1, a2) (sm_mono sa (by decide)) W)
          have hi2 := Lib.hid (fun W => is_ok (u1, u2) (sm_mono sv (by decide)) W)
          unfold cw zV at hi1 hi2
          simp only at hi1 hi2
          clear sa sv
          have kS := fun W V U V' U' s' (F : Fo W w.heap.size x y X Y t r t' r' V U V' U' ⟨(a1, a2), (u1, u2), dn, ms⟩ ⟨(a1, a2), (u1, u2), dn, ms⟩ s' s') => And.intro (And.intro ((F.p5.cell k).trans hx.out) ((F.p6.cell k).trans hy.out)) (And.intro (And.intro (F.p2.bk.cell 0) (F.p2.bk.cell 1)) (And.intro (And.intro (F.p2.bk.cell 2) (F.p2.bk.cell 3)) (F.p2.bk.cell 4)))
          simp at kS
          replace kS := Lib.hid kS
          obtain ⟨⟨j0_, j1_⟩, ⟨j2_, j3_⟩, ⟨j4_, j5_⟩, j6_⟩ := kS.out _ _ _ _ _ _ F.out
          clear j0_ j1_ j2_ j3_ j4_ j5_ j6_
          have hat := Lib.hid (tat (Fo.draw F.out).p1)
          unfold cw at hat
          simp only at hat
          obtain ⟨⟨j0_, j1_⟩, ⟨j2_, j3_⟩, ⟨j4_, j5_⟩, j6_⟩ := kS.out _ _ _ _ _ _ F.out
          go_upto_region 26 with (fail)
          go_region_held3 (fun w' => (w'.cell? ⟨x, k, none⟩ = some (.pointer (some ⟨t, 0, none⟩)) ∧ w'.cell? ⟨y, k, none⟩ = some (.pointer (some ⟨r, 0, none⟩))) ∧ w'.cell? ⟨r, 0, none⟩ = some (.int .i64 a1) ∧ w'.cell? ⟨r, 1, none⟩ = some (.int .i64 a2)) (go_keep) ((first | (go_at_call 23; (with_reducible refine Calls.mono hat.out ?_); rintro e w1_ ⟨rfl, rfl⟩) | (go_at_call 31; (with_reducible refine Calls.mono (hi1.out _) ?_); rintro e w1_ ⟨rfl, hb1⟩; have F2 := Lib.hid ((Fo.draw F.out).bel hb1); replace hW := Lib.hid ((below_drew hW.out).trans (hb1.mono (below_drew hW.out).size)); replace F := F2; clear F2; have kS1 : (w1_.cell? ⟨x, k, none⟩ = some (.pointer (some ⟨t, 0, none⟩)) ∧ w1_.cell? ⟨y, k, none⟩ = some (.pointer (some ⟨r, 0, none⟩))) ∧ w1_.cell? ⟨r, 0, none⟩ = some (.int .i64 a1) ∧ w1_.cell? ⟨r, 1, none⟩ = some (.int .i64 a2) := ⟨(kS.out _ _ _ _ _ _ F.out).1, (kS.out _ _ _ _ _ _ F.out).2.1⟩)))
          clear j0_ j1_ j2_ j3_ j4_ j5_ j6_ hat
          have hat := Lib.hid (tway (Fo.draw F.out).p1)
          unfold cw at hat
          simp only at hat
          obtain ⟨⟨j0_, j1_⟩, ⟨j2_, j3_⟩, ⟨j4_, j5_⟩, j6_⟩ := kS.out _ _ _ _ _ _ F.out
          go_upto_region 27 with (fail)
          go_region_held3 (fun w' => (w'.cell? ⟨x, k, none⟩ = some (.pointer (some ⟨t, 0, none⟩)) ∧ w'.cell? ⟨y, k, none⟩ = some (.pointer (some ⟨r, 0, none⟩))) ∧ w'.cell? ⟨r, 2, none⟩ = some (.int .i64 u1) ∧ w'.cell? ⟨r, 3, none⟩ = some (.int .i64 u2)) (go_keep) ((first | (go_at_call 32; (with_reducible refine Calls.mono hat.out ?_); rintro e w1_ ⟨rfl, rfl⟩) | (go_at_call 31; (with_reducible refine Calls.mono (hi2.out _) ?_); rintro e w1_ ⟨rfl, hb1⟩; have F2 := Lib.hid ((Fo.draw F.out).bel hb1); replace hW := Lib.hid ((below_drew hW.out).trans (hb1.mono (below_drew hW.out).size)); replace F := F2; clear F2; have kS1 : (w1_.cell? ⟨x, k, none⟩ = some (.pointer (some ⟨t, 0, none⟩)) ∧ w1_.cell? ⟨y, k, none⟩ = some (.pointer (some ⟨r, 0, none⟩))) ∧ w1_.cell? ⟨r, 2, none⟩ = some (.int .i64 u1) ∧ w1_.cell? ⟨r, 3, none⟩ = some (.int .i64 u2) := ⟨(kS.out _ _ _ _ _ _ F.out).1, (kS.out _ _ _ _ _ _ F.out).2.2.1⟩)))
          clear j0_ j1_ j2_ j3_ j4_ j5_ j6_ hat
          have hdn := Lib.hid (tdown (Fo.draw F.out).p1)
          simp only at hdn
          obtain ⟨⟨j0_, j1_⟩, ⟨j2_, j3_⟩, ⟨j4_, j5_⟩, j6_⟩ := kS.out _ _ _ _ _ _ F.out
          go_upto_region 28 with (fail)
          go_region_held3 (fun w' => (w'.cell? ⟨x, k, none⟩ = some (.pointer (some ⟨t, 0, none⟩)) ∧ w'.cell? ⟨y, k, none⟩ = some (.pointer (some ⟨r, 0, none⟩))) ∧ w'.cell? ⟨r, 4, none⟩ = some (.bool dn)) (go_keep) ((go_at_call 33; (with_reducible refine Calls.mono hdn.out ?_); rintro e w1_ ⟨rfl, rfl⟩))
          clear j0_ j1_ j2_ j3_ j4_ j5_ j6_ hdn
          go_wp2_with (fail)
          have hend := hback.out _ _ _ _ _ _ _ (Fo.draw F.out)
          obtain ⟨V9, U9, V8, U8, s9, s8, F9⟩ := hend
          exact ⟨⟨j + 1, rfl, by omega, by omega, Lib.hid ⟨_, _, _, _, _, _, F9, below_drew hW.out⟩⟩, by simp [intOf]; omega⟩
      go_wp2_with (fail)
      refine (hpq.out _).mono ?_
      rintro e w8 ⟨rfl, rfl⟩
      clear hpk hpq o0 o1 o2
      rcases (by omega : q = 0 ∨ q = 1 ∨ q = 2 ∨ q = 3 ∨ q = 4 ∨ q = 5) with rfl | rfl | rfl | rfl | rfl | rfl
      · as_aux_lemma =>
          have z9 := hk2
          obtain ⟨c1, s2, hP, hDc⟩ := fwd_both s F.out.p1.sa F.out.p1.un F.out.p1.le v2
          unfold FwdP at hP
          unfold FwdD at hDc
          replace hP := Lib.hid hP
          replace hDc := Lib.hid hDc
          have kS2 := fun W V U V' U' s q s' (F : Fo W w.heap.size x y X Y t r t' r' V U V' U' s q s' s') => And.intro ((F.p5.cell k).trans hx.out) ((F.p6.cell k).trans hy.out)
          obtain ⟨j0_, j1_⟩ := kS2 _ _ _ _ _ _ _ _ F.out
          replace kS2 := Lib.hid kS2
          go_upto_region 14 with (fail)
          go_region_held3 (fun w' => w'.cell? ⟨x, k, none⟩ = some (.pointer (some ⟨t, 0, none⟩)) ∧ w'.cell? ⟨y, k, none⟩ = some (.pointer (some ⟨r, 0, none⟩))) (go_keep) ((first | (go_at_call 21; (with_reducible refine Calls.mono (hP.out _ _ _ _ _ _ _ _ _ _ _ _ _ _ _ _ _ (Fo.draw F.out) (below_drew hW.out).size) ?_); rintro e w1_ ⟨rfl, V2, F2, hb1⟩; replace hW := Lib.hid ((below_drew hW.out).trans hb1); replace F := Lib.hid F2; clear F2; have kS1 : w1_.cell? ⟨x, k, none⟩ = some (.pointer (some ⟨t, 0, none⟩)) ∧ w1_.cell? ⟨y, k, none⟩ = some (.pointer (some ⟨r, 0, none⟩)) := kS2.out _ _ _ _ _ _ _ _ F.out) | (go_at_call 27; (with_reducible refine Calls.mono (hDc.out _ _ _ _ _ _ _ _ _ _ _ _ _ _ _ _ _ F.out hW.out.size) ?_); rintro e w1_ ⟨rfl, U2, F2, hb1⟩; replace hW := Lib.hid (hW.out.trans hb1); replace F := Lib.hid F2; clear F2; have kS1 : w1_.cell? ⟨x, k, none⟩ = some (.pointer (some ⟨t, 0, none⟩)) ∧ w1_.cell? ⟨y, k, none⟩ = some (.pointer (some ⟨r, 0, none⟩)) := kS2.out _ _ _ _ _ _ _ _ F.out)))
          clear j0_ j1_ kS2 hP hDc
          go_wp2_with (fail)
          go_meet
          first | exact Lib.hid ⟨_, _, _, _, _, _, F.out, hW.out⟩ | exact Lib.hid ⟨_, _, _, _, _, _, Fo.draw F.out, below_drew hW.out⟩
      · as_aux_lemma =>
          have z9 := hk2
          obtain ⟨c1, s2, hP, hDc⟩ := fwd_both s F.out.p1.sa F.out.p1.un F.out.p1.le v2
          unfold FwdP at hP
          unfold FwdD at hDc
          replace hP := Lib.hid hP
          replace hDc := Lib.hid hDc
          have kS2 := fun W V U V' U' s q s' (F : Fo W w.heap.size x y X Y t r t' r' V U V' U' s q s' s') => And.intro ((F.p5.cell k).trans hx.out) ((F.p6.cell k).trans hy.out)
          obtain ⟨j0_, j1_⟩ := kS2 _ _ _ _ _ _ _ _ F.out
          replace kS2 := Lib.hid kS2
          go_upto_region 14 with (fail)
          go_region_held3 (fun w' => w'.cell? ⟨x, k, none⟩ = some (.pointer (some ⟨t, 0, none⟩)) ∧ w'.cell? ⟨y, k, none⟩ = some (.pointer (some ⟨r, 0, none⟩))) (go_keep) ((first | (go_at_call 21; (with_reducible refine Calls.mono (hP.out _ _ _ _ _ _ _ _ _ _ _ _ _ _ _ _ _ (Fo.draw F.out) (below_drew hW.out).size) ?_); rintro e w1_ ⟨rfl, V2, F2, hb1⟩; replace hW := Lib.hid ((below_drew hW.out).trans hb1); replace F := Lib.hid F2; clear F2; have kS1 : w1_.cell? ⟨x, k, none⟩ = some (.pointer (some ⟨t, 0, none⟩)) ∧ w1_.cell? ⟨y, k, none⟩ = some (.pointer (some ⟨r, 0, none⟩)) := kS2.out _ _ _ _ _ _ _ _ F.out) | (go_at_call 27; (with_reducible refine Calls.mono (hDc.out _ _ _ _ _ _ _ _ _ _ _ _ _ _ _ _ _ F.out hW.out.size) ?_); rintro e w1_ ⟨rfl, U2, F2, hb1⟩; replace hW := Lib.hid (hW.out.trans hb1); replace F := Lib.hid F2; clear F2; have kS1 : w1_.cell? ⟨x, k, none⟩ = some (.pointer (some ⟨t, 0, none⟩)) ∧ w1_.cell? ⟨y, k, none⟩ = some (.pointer (some ⟨r, 0, none⟩)) := kS2.out _ _ _ _ _ _ _ _ F.out)))
          clear j0_ j1_ kS2 hP hDc
          go_wp2_with (fail)
          go_meet
          first | exact Lib.hid ⟨_, _, _, _, _, _, F.out, hW.out⟩ | exact Lib.hid ⟨_, _, _, _, _, _, Fo.draw F.out, below_drew hW.out⟩
      · as_aux_lemma =>
          have z9 := hk2
          obtain ⟨⟨a1, a2⟩, ⟨u1, u2⟩, dn, ms⟩ := s
          have ht := Lib.hid (tturn F.out.p1 v2)
          have j0_ := (F.out.p5.cell k).trans hx.out
          have hrt := Lib.hid (fun W => rturn_any (u1, u2) (sm_mono F.out.p1.un.sm (by decide)) v2 W)
          unfold zV at hrt
          try simp only at hrt
          obtain ⟨⟨z1, z2⟩, hz⟩ : ∃ z, turnZ (u1, u2) v2 = z := ⟨_, rfl⟩
          go_wp2_with (fail)
          refine ht.out.mono ?_
          rintro e w9 ⟨rfl, T2, hO⟩
          try simp only at T2
          rw [hz] at T2 hrt
          try simp only at hrt
          have F2 := F.out.prog (Trd.of_only hO) (s2 := ⟨(a1, a2), (z1, z2), dn, ms⟩) T2 (.inl rfl)
          replace hW := Lib.hid (hW.out.trans ((Trd.of_only (row := V.ownBlock) hO).below F.out.g1 (own_ge F.out.p1.row) hW.out.size))
          clear ht T2 hO j0_ F hz
          go_upto_region 18 with (fail)
          have j2_ := F2.p2.bk.cell 2
          have j4_ := F2.p2.bk.cell 3
          simp at j2_ j4_
          have S0 := (F2.draw.p6.cell k).trans hy.out
          refine wp_region_held_drew (S := fun w' => w'.cell? ⟨y, k, none⟩ = some (.pointer (some ⟨r, 0, none⟩))) (by kernel_rfl) S0 (fun hHeld => ?_)
          refine wpAnyH_take (i := 0) (oi := { dst := some 88, op := _, type := _, pos := _, after := _, guard := _ }) (v := ?_) rfl (by kernel_rfl) (by kernel_rfl) (by kernel_rfl) (fun _ _ _ h => h) (Or.inl ⟨by rfl, ?_⟩) (by assumption) ?_
          rotate_left
          focus ((intro w hSw); (try dsimp only at hSw); go_simp; (try (with_reducible rfl)))
          try simp only [Act.put, List.setIfInBounds_toArray, List.set_cons_zero, List.set_cons_succ]
          refine wpAnyH_take (i := 1) (oi := { dst := some 89, op := _, type := _, pos := _, after := _, guard := _ }) (v := ?_) rfl (by kernel_rfl) (by kernel_rfl) (by kernel_rfl) (fun _ _ _ h => h) (Or.inl ⟨by rfl, ?_⟩) (by assumption) ?_
          rotate_left
          focus ((intro w hSw); (try dsimp only at hSw); go_simp; (try (with_reducible rfl)))
          try simp only [Act.put, List.setIfInBounds_toArray, List.set_cons_zero, List.set_cons_succ]
          refine wpAnyH_take (i := 2) (oi := { dst := some 90, op := _, type := _, pos := _, after := _, guard := _ }) (v := ?_) rfl (by kernel_rfl) (by kernel_rfl) (by kernel_rfl) (fun _ _ _ h => h) (Or.inl ⟨by rfl, ?_⟩) (by assumption) ?_
          rotate_left
          focus ((intro w hSw); (try dsimp only at hSw); go_simp; (try (with_reducible rfl)))
          try simp only [Act.put, List.setIfInBounds_toArray, List.set_cons_zero, List.set_cons_succ]
          refine wpAnyH_take (i := 3) (oi := { dst := some 91, op := _, type := _, pos := _, after := _, guard := _ }) (v := ?_) rfl (by kernel_rfl) (by kernel_rfl) (by kernel_rfl) (fun _ _ _ h => h) (Or.inl ⟨by rfl, ?_⟩) (by assumption) ?_
          rotate_left
          focus ((intro w hSw); (try dsimp only at hSw); go_simp; (try (with_reducible rfl)))
          try simp only [Act.put, List.setIfInBounds_toArray, List.set_cons_zero, List.set_cons_succ]
          refine wpAnyH_take (i := 4) (oi := { dst := some 92, op := _, type := _, pos := _, after := _, guard := _ }) (v := ?_) rfl (by kernel_rfl) (by kernel_rfl) (by kernel_rfl) (fun _ _ _ h => h) (Or.inl ⟨by rfl, ?_⟩) (by assumption) ?_
          rotate_left
          focus ((intro w hSw); (try dsimp only at hSw); go_simp; (try (with_reducible rfl)))
          try simp only [Act.put, List.setIfInBounds_toArray, List.set_cons_zero, List.set_cons_succ]
          refine wpAnyH_take (i := 5) (oi := { dst := some 93, op := _, type := _, pos := _, after := _, guard := _ }) (v := ?_) rfl (by kernel_rfl) (by kernel_rfl) (by kernel_rfl) (fun _ _ _ h => h) (Or.inl ⟨by rfl, ?_⟩) (by assumption) ?_
          rotate_left
          focus ((intro w hSw); (try dsimp only at hSw); go_simp; (try (with_reducible rfl)))
          try simp only [Act.put, List.setIfInBounds_toArray, List.set_cons_zero, List.set_cons_succ]
          refine wpAnyH_take (i := 6) (oi := { dst := some 94, op := _, type := _, pos := _, after := _, guard := _ }) (v := ?_) rfl (by kernel_rfl) (by kernel_rfl) (by kernel_rfl) (fun _ _ _ h => h) (Or.inl ⟨by rfl, ?_⟩) (by assumption) ?_
          rotate_left
          focus ((intro w hSw); (try dsimp only at hSw); go_simp; (try (with_reducible rfl)))
          try simp only [Act.put, List.setIfInBounds_toArray, List.set_cons_zero, List.set_cons_succ]
          refine wpAnyH_take (i := 7) (oi := { dst := some 95, op := _, type := _, pos := _, after := _, guard := _ }) (v := ?_) rfl (by kernel_rfl) (by kernel_rfl) (by kernel_rfl) (fun _ _ _ h => h) (Or.inl ⟨by rfl, ?_⟩) (by assumption) ?_
          rotate_left
          focus ((intro w hSw); (try dsimp only at hSw); go_simp; (try (with_reducible rfl)))
          try simp only [Act.put, List.setIfInBounds_toArray, List.set_cons_zero, List.set_cons_succ]
          refine wpAnyH_take (i := 8) (oi := { dst := some 96, op := _, type := _, pos := _, after := _, guard := _ }) (v := ?_) rfl (by kernel_rfl) (by kernel_rfl) (by kernel_rfl) (fun _ _ _ h => h) (Or.inl ⟨by rfl, ?_⟩) (by assumption) ?_
          rotate_left
          focus ((intro w hSw); (try dsimp only at hSw); go_simp; (try (with_reducible rfl)))
          try simp only [Act.put, List.setIfInBounds_toArray, List.set_cons_zero, List.set_cons_succ]
          refine wpAnyH_take (i := 9) (oi := { dst := some 97, op := _, type := _, pos := _, after := _, guard := _ }) (v := ?_) rfl (by kernel_rfl) (by kernel_rfl) (by kernel_rfl) (fun _ _ _ h => h) (Or.inl ⟨by rfl, ?_⟩) (by assumption) ?_
          rotate_left
          focus ((intro w hSw); (try dsimp only at hSw); go_simp; (try (with_reducible rfl)))
          try simp only [Act.put, List.setIfInBounds_toArray, List.set_cons_zero, List.set_cons_succ]
          refine wpAnyH_take (i := 11) (oi := { dst := some 99, op := _, type := _, pos := _, after := _, guard := _ }) (v := ?_) rfl (by kernel_rfl) (by kernel_rfl) (by kernel_rfl) (fun _ _ _ h => h) (Or.inl ⟨by rfl, ?_⟩) (by assumption) ?_
          rotate_left
          focus ((intro w hSw); (try dsimp only at hSw); go_simp; (try (with_reducible rfl)))
          try simp only [Act.put, List.setIfInBounds_toArray, List.set_cons_zero, List.set_cons_succ]
          refine wpAnyH_ready (rs := [10]) (by kernel_rfl) (by simp) ?_
          refine AllReadyH.cons (o := { dst := some 98, op := _, type := _, pos := _, after := _, guard := _ }) rfl (fun K hK => ?_) AllReadyH.nil
          go_simp
          refine hK _ _ S0 (fun hHeld => ?_)
          clear hK K
          try simp only [Act.put, List.setIfInBounds_toArray, List.set_cons_zero, List.set_cons_succ]
          refine wpAnyH_ready (rs := [12]) (by kernel_rfl) (by simp) ?_
          refine AllReadyH.cons (o := { dst := some 100, op := _, type := _, pos := _, after := _, guard := _ }) rfl (fun K hK => ?_) AllReadyH.nil
          go_simp
          refine Calls.mono (hrt.out _) ?_
          rintro e w10 ⟨rfl, hb⟩
          have F3 := F2.draw.bel hb
          have hW3 := (below_drew hW.out).trans (hb.mono (below_drew hW.out).size)
          have S1 := (F3.p6.cell k).trans hy.out
          go_wp2_with (fail)
          refine hK.out _ _ S1 (fun hHeld => ?_)
          clear hK K
          try simp only [Act.put, List.setIfInBounds_toArray, List.set_cons_zero, List.set_cons_succ]
          refine wpAnyH_take (i := 13) (oi := { dst := some 101, op := _, type := _, pos := _, after := _, guard := _ }) (v := ?_) rfl (by kernel_rfl) (by kernel_rfl) (by kernel_rfl) (fun _ _ _ h => h) (Or.inl ⟨by rfl, ?_⟩) (by assumption) ?_
          rotate_left
          focus ((intro w hSw); (try dsimp only at hSw); go_simp; (try (with_reducible rfl)))
          try simp only [Act.put, List.setIfInBounds_toArray, List.set_cons_zero, List.set_cons_succ]
          refine wpAnyH_take (i := 14) (oi := { dst := some 102, op := _, type := _, pos := _, after := _, guard := _ }) (v := ?_) rfl (by kernel_rfl) (by kernel_rfl) (by kernel_rfl) (fun _ _ _ h => h) (Or.inl ⟨by rfl, ?_⟩) (by assumption) ?_
          rotate_left
          focus ((intro w hSw); (try dsimp only at hSw); go_simp; (try (with_reducible rfl)))
          try simp only [Act.put, List.setIfInBounds_toArray, List.set_cons_zero, List.set_cons_succ]
          have hbk1 := (F3.p2.bk.put 2 (.int .i64 z1)).put 3 (.int .i64 z2)
          have hx5 := (F3.p6.other (p := ⟨r, 2, none⟩) (fun e => Bk.ne F3.p6 F3.p2.bk (by decide) e) (.int .i64 z1)).other (p := ⟨r, 3, none⟩) (fun e => Bk.ne F3.p6 F3.p2.bk (by decide) e) (.int .i64 z2)
          have hO := ((Only.refl r w10).put 2 (.int .i64 z1)).put 3 (.int .i64 z2)
          have S3 := (hx5.cell k).trans hy.out
          have k2_ := F3.p2.bk.cell 2
          have k3_ := F3.p2.bk.free 2
          have k4_ := F3.p2.bk.cell 3
          have k5_ := F3.p2.bk.free 3
          simp at k2_ k4_
          refine wpAnyH_ready (rs := [15]) (by kernel_rfl) (by simp) ?_
          refine AllReadyH.cons (o := { dst := none, op := _, type := _, pos := _, after := _, guard := _ }) rfl (fun K hK => ?_) AllReadyH.nil
          go_simp
          refine hK _ _ S3 (fun hHeld => ?_)
          clear hK K
          try simp only [Act.put, List.setIfInBounds_toArray, List.set_cons_zero, List.set_cons_succ]
          refine wpAnyH_done (by kernel_rfl) ?_ _
          have R2 : RtS ((w10.setCell ⟨r, 2, none⟩ (.int .i64 z1)).setCell ⟨r, 3, none⟩ (.int .i64 z2)) w.heap.size r U ⟨(a1, a2), (z1, z2), dn, ms⟩ := Rt_.put (v' := (z1, z2)) F3.p2 hbk1 hO
          have F := F3.doc (Trd.of_only hO) R2 (.inl rfl)
          replace hW := Lib.hid (hW3.trans ((Trd.of_only (row := U.ownBlock) hO).below F3.g2 (own_ge F3.p2.row) hW3.size))
          clear F2 F3 R2 hO hbk1 hx5 hHeld S0 S1 S3 hW3 hb k2_ k3_ k4_ k5_ j2_ j4_ hrt
          obtain ⟨s2, hs2⟩ : ∃ s2, (⟨(a1, a2), (z1, z2), dn, ms⟩ : St) = s2 := ⟨_, rfl⟩
          rw [hs2] at F
          replace F := Lib.hid F
          clear hs2
          go_wp2_with (fail)
          go_meet
          first | exact Lib.hid ⟨_, _, _, _, _, _, F.out, hW.out⟩ | exact Lib.hid ⟨_, _, _, _, _, _, Fo.draw F.out, below_drew hW.out⟩
      · as_aux_lemma =>
          have z9 := hk2
          obtain ⟨⟨a1, a2⟩, ⟨u1, u2⟩, dn, ms⟩ := s
          obtain ⟨d, hd⟩ : ∃ d, (v2.tmod 2 == 0) = d := ⟨_, rfl⟩
          have ht := Lib.hid (tpen F.out.p1 d)
          have j0_ := (F.out.p5.cell k).trans hx.out
          go_wp2_with (fail)
          refine ht.out.mono ?_
          rintro e w9 ⟨rfl, T2, hO⟩
          have F2 := F.out.prog (Trd.of_only hO) (s2 := ⟨(a1, a2), (u1, u2), d, ms⟩) T2 (.inl rfl)
          replace hW := Lib.hid (hW.out.trans ((Trd.of_only (row := V.ownBlock) hO).below F.out.g1 (own_ge F.out.p1.row) hW.out.size))
          clear ht T2 hO j0_ F
          have j1_ := (F2.p6.cell k).trans hy.out
          have j2_ := F2.p2.bk.cell 4
          have j3_ := F2.p2.bk.free 4
          simp at j2_
          have hO := ((Only.refl r w9).put 4 (.bool d))
          have R2 : RtS (w9.setCell ⟨r, 4, none⟩ (.bool d)) w.heap.size r U ⟨(a1, a2), (u1, u2), d, ms⟩ := Rt_.put (dn' := d) F2.p2 (F2.p2.bk.put 4 (.bool d)) hO
          have F3 := F2.doc (Trd.of_only hO) R2 (.inl rfl)
          replace hW := Lib.hid (hW.out.trans ((Trd.of_only (row := U.ownBlock) hO).below F2.g2 (own_ge F2.p2.row) hW.out.size))
          have F := F3
          clear F2 F3 R2 hO
          go_upto_region 21 with (fail)
          obtain ⟨s2, hs2⟩ : ∃ s2, (⟨(a1, a2), (u1, u2), d, ms⟩ : St) = s2 := ⟨_, rfl⟩
          rw [hs2] at F
          replace F := Lib.hid F
          clear hs2
          go_wp2_with (fail)
          go_meet
          first | exact Lib.hid ⟨_, _, _, _, _, _, F.out, hW.out⟩ | exact Lib.hid ⟨_, _, _, _, _, _, Fo.draw F.out, below_drew hW.out⟩
      · as_aux_lemma =>
          have z9 := hk2
          obtain ⟨⟨a1, a2⟩, ⟨u1, u2⟩, dn, ms⟩ := s
          have ht := Lib.hid (thome F.out.p1)
          have j0_ := (F.out.p5.cell k).trans hx.out
          go_wp2_with (fail)
          refine ht.out.mono ?_
          rintro e w9 ⟨rfl, T2, hO⟩
          have F2 := F.out.prog (Trd.of_only hO) (s2 := ⟨(0, 0), (1, 0), dn, ms⟩) T2 (.inl rfl)
          replace hW := Lib.hid (hW.out.trans ((Trd.of_only (row := V.ownBlock) hO).below F.out.g1 (own_ge F.out.p1.row) hW.out.size))
          clear ht T2 hO j0_ F
          have hO1 := ((Only.refl r w9).put 0 (.int .i64 0)).put 1 (.int .i64 0)
          have hO := (hO1.put 2 (.int .i64 1)).put 3 (.int .i64 0)
          have hbk1 := (F2.p2.bk.put 0 (.int .i64 0)).put 1 (.int .i64 0)
          have hx5 := (F2.p6.other (p := ⟨r, 0, none⟩) (fun e => Bk.ne F2.p6 F2.p2.bk (by decide) e) (.int .i64 0)).other (p := ⟨r, 1, none⟩) (fun e => Bk.ne F2.p6 F2.p2.bk (by decide) e) (.int .i64 0)
          have j1_ := (F2.p6.cell k).trans hy.out
          have j2_ := F2.p2.bk.cell 0
          have j3_ := F2.p2.bk.free 0
          have j4_ := F2.p2.bk.cell 1
          have j5_ := F2.p2.bk.free 1
          have j6_ := (hx5.cell k).trans hy.out
          have j7_ := hbk1.cell 2
          have j8_ := hbk1.free 2
          have j9_ := hbk1.cell 3
          have ja_ := hbk1.free 3
          simp at j2_ j4_ j7_ j9_
          have R2 : RtS ((((w9.setCell ⟨r, 0, none⟩ (.int .i64 0)).setCell ⟨r, 1, none⟩ (.int .i64 0)).setCell ⟨r, 2, none⟩ (.int .i64 1)).setCell ⟨r, 3, none⟩ (.int .i64 0)) w.heap.size r U ⟨(0, 0), (1, 0), dn, ms⟩ := Rt_.put (a' := (0, 0)) (v' := (1, 0)) F2.p2 ((hbk1.put 2 (.int .i64 1)).put 3 (.int .i64 0)) hO
          have F := F2.doc (Trd.of_only hO) R2 (.inl rfl)
          replace hW := Lib.hid (hW.out.trans ((Trd.of_only (row := U.ownBlock) hO).below F2.g2 (own_ge F2.p2.row) hW.out.size))
          clear F2 R2 hO hO1 hbk1 hx5
          obtain ⟨s2, hs2⟩ : ∃ s2, (⟨(0, 0), (1, 0), dn, ms⟩ : St) = s2 := ⟨_, rfl⟩
          rw [hs2] at F
          replace F := Lib.hid F
          clear hs2
          go_upto_region 26 with (fail)
          clear j1_ j2_ j3_ j4_ j5_ j6_ j7_ j8_ j9_ ja_
          go_wp2_with (fail)
          go_meet
          first | exact Lib.hid ⟨_, _, _, _, _, _, F.out, hW.out⟩ | exact Lib.hid ⟨_, _, _, _, _, _, Fo.draw F.out, below_drew hW.out⟩
      · as_aux_lemma =>
          obtain ⟨s2, hs2⟩ : ∃ s2, s = s2 := ⟨_, rfl⟩
          rw [hs2] at F
          clear hs2
          go_wp2_with (fail)
          go_meet
          first | exact Lib.hid ⟨_, _, _, _, _, _, F.out, hW.out⟩ | exact Lib.hid ⟨_, _, _, _, _, _, Fo.draw F.out, below_drew hW.out⟩
    · have hcond : (¬ (j : Int) < (n : Int)) ∨ ((j : Int) < (n : Int) ∧ ¬ (j : Int) < 6000) := by omega
      rcases hcond with h1 | ⟨h1, h2⟩
      all_goals
        clear hj
        go_wp2_with (fail)
        go_meet
        exact hQ
end Go.Proofs.YtndgcndmkfjdgaaDoor
