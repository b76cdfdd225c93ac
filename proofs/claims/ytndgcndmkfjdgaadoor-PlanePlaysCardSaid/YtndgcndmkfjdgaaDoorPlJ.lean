import Derived.Test.YtndgcndmkfjdgaaDoorPlS
import Derived.Lib.SlTrimSet
namespace Go.Proofs.YtndgcndmkfjdgaaDoor
open Go.RowKit Go.Extern.Stop Go.Stop Go.Extern
set_option linter.unusedVariables false
set_option linter.unusedSimpArgs false
/-! Draw -/
def loN (zs : List Mk) : Nat → Pt
  | 0 => (zs.getD 0 m0).1
  | j + 1 => (min (min (loN zs j).1 (zs.getD j m0).1.1) (zs.getD j m0).2.1, min (min (loN zs j).2 (zs.getD j m0).1.2) (zs.getD j m0).2.2)
def hiN (zs : List Mk) : Nat → Pt
  | 0 => (zs.getD 0 m0).1
  | j + 1 => (max (max (hiN zs j).1 (zs.getD j m0).1.1) (zs.getD j m0).2.1, max (max (hiN zs j).2 (zs.getD j m0).1.2) (zs.getD j m0).2.2)
def loZ (zs : List Mk) : Pt := loN zs zs.length
def hiZ (zs : List Mk) : Pt := hiN zs zs.length
def lineL (zs : List Mk) (x y : Int) (n : Nat) : List UInt8 := (List.range n).map fun (i : Nat) => signZ zs (x + (i : Int), y)
def rowsL (zs : List Mk) (x y : Int) (m n : Nat) : List UInt8 := (List.range n).flatMap fun (i : Nat) => Lib.trimRightB (lineL zs x (y - (i : Int)) m) 32 ++ [10]
/-- how wide, how high -/
def wide (zs : List Mk) : Int := (hiZ zs).1 - (loZ zs).1
def high (zs : List Mk) : Int := (hiZ zs).2 - (loZ zs).2
def drawZ (zs : List Mk) : List UInt8 := rowsL zs (loZ zs).1 (hiZ zs).2 ((wide zs).toNat + 1) ((high zs).toNat + 1)
theorem lineL_len (zs : List Mk) (x y : Int) (n : Nat) : (lineL zs x y n).length = n := by simp [lineL]
theorem lineL_next (zs : List Mk) (x y : Int) (n : Nat) : lineL zs x y (n + 1) = lineL zs x y n ++ [signZ zs (x + (n : Int), y)] := by
  unfold lineL; rw [List.range_succ, List.map_append]; rfl
theorem rowsL_next (zs : List Mk) (x y : Int) (m n : Nat) : rowsL zs x y m (n + 1) = rowsL zs x y m n ++ (Lib.trimRightB (lineL zs x (y - (n : Int)) m) 32 ++ [10]) := by
  unfold rowsL; rw [List.range_succ, List.flatMap_append]; simp
theorem trim_len (l : List UInt8) (c : UInt8) : (Lib.trimRightB l c).length ≤ l.length := by
  unfold Lib.trimRightB
  rw [List.length_reverse]
  exact Nat.le_trans (List.dropWhile_sublist _).length_le (by rw [List.length_reverse]; exact Nat.le_refl _)
theorem rowsL_len (zs : List Mk) (x y : Int) (m n : Nat) : (rowsL zs x y m n).length ≤ n * (m + 1) := by
  induction n with
  | zero => simp [rowsL]
  | succ n ih =>
    rw [rowsL_next, List.length_append, List.length_append]
    have := trim_len (lineL zs x (y - (n : Int)) m) 32
    rw [lineL_len] at this
    simp only [List.length_cons, List.length_nil]
    rw [Nat.add_mul]
    omega
theorem lo_hi (zs : List Mk) : ∀ j, (loN zs j).1 ≤ (hiN zs j).1 ∧ (loN zs j).2 ≤ (hiN zs j).2
  | 0 => ⟨Int.le_refl _, Int.le_refl _⟩
  | j + 1 => by
    have := lo_hi zs j
    simp only [loN, hiN]
    omega
theorem lo_sm (zs : List Mk) (h : Sms zs) : ∀ j, 0 < zs.length → j ≤ zs.length → Sm (loN zs j) 16777216 ∧ Sm (hiN zs j) 16777216
  | 0, h0, _ => ⟨(h 0 h0).1, (h 0 h0).1⟩
  | j + 1, h0, hj => by
    have ih := lo_sm zs h j h0 (by omega)
    have h2 := h j (by omega)
    unfold Sm at *
    simp only [loN, hiN]
    omega
theorem cat_run (l m : List UInt8) (hl : l.length ≤ 1000000) (hm : m.length ≤ 1000000) (w : World) : (Op.stringOp .add ⟨l.toArray⟩ ⟨m.toArray⟩).run Tryd.prog w = .ok (.string ⟨(l ++ m).toArray⟩) w := by
  rw [run_string_add_sum w ⟨l.toArray⟩ ⟨m.toArray⟩ (by show l.length + m.length ≤ _; omega)]
  congr 2
/-- the whole number that a float stands for -/
def fZ : Value → Int
  | .float _ x => ((Ieee.double.read x).toInt .zero).getD 0
  | _ => 0
theorem fZ_is {x : Nat} {a : Int} (h : Wd x a) : fZ (.float .f64 x) = a := by
  unfold fZ
  simp only [wd_toInt h, Option.getD_some]
theorem isb_below {B b : Nat} {bs : List Value} {w w' : World} (h : Lib.IsBuilder BT 5 B b bs w) (hb : Below w.heap.size w w') : Lib.IsBuilder BT 5 B b bs w' := by
  have key : ∀ p, Lib.BuilderAt BT 5 B b p bs w → Lib.BuilderAt BT 5 B b p bs w' := fun p ⟨h1, v, h2, h3, h4⟩ =>
    ⟨h1, v, (hb.block b (Array.getElem?_eq_some_iff.1 h2).1).trans h2, own_below h3 hb (Nat.le_refl _), h4⟩
  exact h.elim (fun h => .inl (key _ h)) (fun h => .inr (key _ h))
theorem cells_str (l : List UInt8) : Lib.strCells ⟨l.toArray⟩ = Lib.byteCells l := by
  rfl
theorem cells_cat (l m : List UInt8) : Lib.byteCells l ++ Lib.byteCells m = Lib.byteCells (l ++ m) := by simp [Lib.byteCells]
theorem pdraw_bad (A : Option Addr) (xs : List Mw) (n c : Nat) (w : World) (hm : xs.length = n) (h : Mks w A xs) (hno : ¬ Rg xs) : Calls Tryd.prog 18 #[.slice A n c] w fun e w' => e = .returned (.tuple #[.string ⟨#[]⟩, .int .i64 1]) ∧ Below w.heap.size w w' := by
  have hr := Lib.hid (pright_any A xs n c w hm h false ⟨fun h => absurd h (by decide), fun h => absurd h hno⟩)
  clear h hno
  go_enter Tryd.func18, Tryd.ntmps18
  go_wp2_with (fail)
  refine hr.out.mono ?_
  rintro e w1 ⟨rfl, hb⟩
  go_wp2_with (fail)
  go_returns
  exact ⟨rfl, hb⟩
theorem pdraw_nil (A : Option Addr) (c : Nat) (w : World) : Calls Tryd.prog 18 #[.slice A 0 c] w fun e w' => e = .returned (.tuple #[.string ⟨#[]⟩, .int .i64 0]) ∧ Below w.heap.size w w' := by
  have hr := Lib.hid (pright_any A [] 0 c w rfl (fun j hj => absurd hj (Nat.not_lt_zero _)) true ⟨fun _ => ⟨by decide, fun m hm => by cases hm⟩, fun _ => rfl⟩)
  go_enter Tryd.func18, Tryd.ntmps18
  go_wp2_with (fail)
  refine hr.out.mono ?_
  rintro e w1 ⟨rfl, hb⟩
  go_wp2_with (fail)
  go_returns
  exact ⟨rfl, hb⟩
set_option maxRecDepth 100000 in
set_option maxHeartbeats 8000000 in
theorem pdraw_go (A : Option Addr) (xs : List Mw) (zs : List Mk) (n c : Nat) (w : World) (hm : xs.length = n) (h0 : 0 < n) (h : Mks w A xs) (hD : Dr xs zs) : Calls Tryd.prog 18 #[.slice A n c] w fun e w' => e = .returned (if 99 < wide zs ∨ 99 < high zs then .tuple #[.string ⟨#[]⟩, .int .i64 2] else .tuple #[.string ⟨(drawZ zs).toArray⟩, .int .i64 0]) ∧ Below w.heap.size w w' := by
  obtain ⟨V, hV⟩ : ∃ V, (if 99 < wide zs ∨ 99 < high zs then Value.tuple #[.string ⟨#[]⟩, .int .i64 2] else .tuple #[.string ⟨(drawZ zs).toArray⟩, .int .i64 0]) = V := ⟨_, rfl⟩
  rw [hV]
  have hr := Lib.hid (pright_any A xs n c w hm h true ⟨fun _ => hD.rg, fun _ => rfl⟩)
  have hn4 : (n : Int) ≤ 4096 := by have := hD.2.1; omega
  have hn0 : (0 : Int) < n := by omega
  have hne : ((n : Int) == 0) = false := by simp; omega
  have hS : Sms zs := fun j hj => by have := (hD.2.2 j (by rw [← hD.1]; exact hj)).2; exact ⟨this.1, this.2.1⟩
  have hlo := lo_sm zs hS
  have hNks : Nks xs zs := ⟨hD.1, fun i hi => (hD.2.2 i hi).1⟩
  obtain ⟨b, off, rfl, hbl, c0, c1, hL⟩ := h 0 (by omega)
  have g0 := (hD.2.2 0 (by omega)).1.1
  obtain ⟨⟨⟨p1, p2⟩, q1, q2⟩, hx⟩ : ∃ p, xs[0] = p := ⟨_, rfl⟩
  rw [hx] at c0 g0
  simp only [Nat.zero_mul, Nat.add_zero] at c0
  replace h := Lib.hid h
  replace hm := Lib.hid hm
  replace hV := Lib.hid hV
  replace hD := Lib.hid hD
  replace hlo := Lib.hid hlo
  replace hS := Lib.hid hS
  replace hNks := Lib.hid hNks
  replace g0 := Lib.hid g0
  clear hL hx c1
  go_enter Tryd.func18, Tryd.ntmps18
  go_wp2_with (fail)
  refine hr.out.mono ?_
  rintro e w1 ⟨rfl, hb⟩
  replace c0 := (hb.cell (p := ⟨b, off, none⟩) hbl).trans c0
  replace hb := Lib.hid hb
  clear hr
  go_wp2_with (fail)
  go_quiet (fail)
  go_wp2_with (fail)
  have hb0 : Below w.heap.size w (w1.drewN nq) := below_drewN hb.out
  obtain ⟨W, hW⟩ : ∃ W, w1.drewN nq = W := ⟨_, rfl⟩
  rw [hW] at hb0 ⊢
  clear hW c0 hb
  replace hb0 := Lib.hid hb0
  go_loopw [4, 5, 31] (fun l4 l5 x wr => ∃ (j : Nat) (l u : Wp), l4 = .complex .f64 l.1 l.2 ∧ l5 = .complex .f64 u.1 u.2 ∧ x = .int .i64 j ∧ j ≤ n ∧ Hid (Nm l (loN zs j) ∧ Nm u (hiN zs j) ∧ Below w.heap.size w wr)) (fun _ _ x _ => n - (intOf x).toNat)
  case atStart => exact ⟨0, (p1, p2), (p1, p2), rfl, rfl, rfl, Nat.zero_le _, Lib.hid ⟨g0.out, g0.out, hb0.out⟩⟩
  case round =>
    obtain ⟨j, ⟨l1, l2⟩, ⟨u1, u2⟩, rfl, rfl, rfl, hj0, hQ⟩ := hrel
    obtain ⟨hl, hu, hW⟩ := hQ.out
    clear hQ g0 hb0

    by_cases hj : j < n
    · have j0 : (j : Int) < (n : Int) := by omega
      have hjl : j < xs.length := by rw [hm.out]; exact hj
      obtain ⟨b', off', eb, _, c0, c1, _⟩ := h.out j hjl
      injection eb with eb
      injection eb with e1 e2
      subst e1 e2
      obtain ⟨g1, g2⟩ := hNks.out.2 j hjl
      obtain ⟨⟨⟨s1, s2⟩, t1, t2⟩, hx⟩ : ∃ p, xs[j] = p := ⟨_, rfl⟩
      rw [hx] at c0 c1 g1 g2
      simp only at c0 c1 g1 g2
      replace c0 := (hW.cell (p := ⟨b, off + j * 2, none⟩) hbl).trans c0
      replace c1 := (hW.cell (p := ⟨b, off + j * 2 + 1, none⟩) hbl).trans c1
      obtain ⟨a1, ha1, r1⟩ := wd_min hl.1 g1.1
      obtain ⟨a2, ha2, r2⟩ := wd_min hl.2 g1.2
      obtain ⟨a3, ha3, r3⟩ := wd_max hu.1 g1.1
      obtain ⟨a4, ha4, r4⟩ := wd_max hu.2 g1.2
      obtain ⟨b1, hb1, v1⟩ := wd_min ha1 g2.1
      obtain ⟨b2, hb2, v2⟩ := wd_min ha2 g2.2
      obtain ⟨b3, hb3, v3⟩ := wd_max ha3 g2.1
      obtain ⟨b4, hb4, v4⟩ := wd_max ha4 g2.2
      have fin : Hid (Nm (b1, b2) (loN zs (j + 1)) ∧ Nm (b3, b4) (hiN zs (j + 1))) := Lib.hid ⟨⟨hb1, hb2⟩, hb3, hb4⟩
      have hW2 := (hW.alloc hW.size (.cells #[.complex .f64 s1 s2, .complex .f64 t1 t2] 65)).alloc (by simp; have := hW.size; omega) (.cells #[.complex .f64 s1 s2, .complex .f64 t1 t2] 43)
      replace hW2 := Lib.hid hW2
      simp only at r1 r2 r3 r4
      clear ha1 ha2 ha3 ha4 hb1 hb2 hb3 hb4 g1 g2 hl hu hW hx
      go_wp2_with (fail)
      refine wp_loop_rounds 3 ?_
      rw [rounds_succ]
      go_wp2_with (fail)
      rw [rounds_succ]
      go_wp2_with (fail)
      rw [rounds_succ]
      go_wp2_with (fail)
      exact ⟨⟨j + 1, (b1, b2), (b3, b4), rfl, rfl, rfl, by omega, Lib.hid ⟨fin.out.1, fin.out.2, hW2.out⟩⟩, by simp [intOf]; omega⟩
    · have j0 : ¬ (j : Int) < (n : Int) := by omega
      obtain rfl : j = n := by omega
      clear hj hj0
      have hzl : zs.length = j := by rw [hNks.out.1, hm.out]
      have hlz : loN zs j = loZ zs := by unfold loZ; rw [hzl]
      have huz : hiN zs j = hiZ zs := by unfold hiZ; rw [hzl]
      have hsm := hlo.out j (by omega) (by omega)
      rw [hlz, huz] at hsm
      rw [hlz] at hl
      rw [huz] at hu
      have hord := lo_hi zs j
      rw [hlz, huz] at hord
      have hwd : (hiZ zs).1 - (loZ zs).1 = wide zs := rfl
      have hhg : (hiZ zs).2 - (loZ zs).2 = high zs := rfl
      have hdz : drawZ zs = rowsL zs (loZ zs).1 (hiZ zs).2 ((wide zs).toNat + 1) ((high zs).toNat + 1) := rfl
      obtain ⟨⟨x0, y0⟩, hloz⟩ : ∃ z, loZ zs = z := ⟨_, rfl⟩
      obtain ⟨⟨x9, y9⟩, hhiz⟩ : ∃ z, hiZ zs = z := ⟨_, rfl⟩
      rw [hloz, hhiz] at hsm hwd hhg hdz hord
      rw [hloz] at hl
      rw [hhiz] at hu
      simp only at hl hu hwd hhg hdz hord hsm
      unfold Sm at hsm
      simp only at hsm
      obtain ⟨⟨z1, z2⟩, hzN, hzr⟩ := nm_sub (x := (u1, u2)) (y := (l1, l2)) hu hl (sm_mono (by unfold Sm; simp only; exact hsm.2) (by decide)) (sm_mono (by unfold Sm; simp only; exact hsm.1) (by decide)) 43
      simp only at hzN hzr
      rw [hwd, hhg] at hzN
      have w99 : Wd 4636666922610458624 99 := ⟨by decide, false, by decide +kernel, by decide⟩
      have g1 := wd_gtr hzN.1 w99
      have g2 := wd_gtr hzN.2 w99
      simp only at g1 g2
      clear hlz huz hloz hhiz hzl
      by_cases t1 : 99 < wide zs
      · rw [decide_eq_true t1] at g1
        have hv : Value.tuple #[.string ⟨#[]⟩, .int .i64 2] = V := by rw [← hV.out, if_pos (.inl t1)]
        clear hsm hord hwd hhg hdz t1 hzN g2 hl hu w99
        replace hv := Lib.hid hv
        go_wp2_with (fail)
        go_returns
        exact ⟨by rw [← hv.out]; rfl, hW⟩
      · by_cases t2 : 99 < high zs
        · rw [decide_eq_false t1] at g1
          rw [decide_eq_true t2] at g2
          have hv : Value.tuple #[.string ⟨#[]⟩, .int .i64 2] = V := by rw [← hV.out, if_pos (.inr t2)]
          clear hsm hord hwd hhg hdz t1 t2 hzN hl hu w99
          replace hv := Lib.hid hv
          go_wp2_with (fail)
          go_returns
          exact ⟨by rw [← hv.out]; rfl, hW⟩
        · rw [decide_eq_false t1] at g1
          rw [decide_eq_false t2] at g2
          have hv : Value.tuple #[.string ⟨(rowsL zs x0 y9 ((wide zs).toNat + 1) ((high zs).toNat + 1)).toArray⟩, .int .i64 0] = V := by rw [← hV.out, if_neg (by omega), hdz]
          obtain ⟨M, hM⟩ : ∃ M, (wide zs).toNat + 1 = M := ⟨_, rfl⟩
          obtain ⟨N, hN⟩ : ∃ N, (high zs).toNat + 1 = N := ⟨_, rfl⟩
          rw [hM, hN] at hv
          have hx9 : x9 = x0 + M - 1 := by omega
          have hy0 : y0 = y9 - N + 1 := by omega
          have hM1 : 1 ≤ M ∧ M ≤ 100 := by omega
          have hN1 : 1 ≤ N ∧ N ≤ 100 := by omega
          replace hv := Lib.hid hv
          replace hsm := Lib.hid hsm
          clear hord hwd hhg hdz t1 t2 hzN w99 hM hN hlo hS
          replace hl := Lib.hid hl
          replace hu := Lib.hid hu
          replace hx9 := Lib.hid hx9
          replace hy0 := Lib.hid hy0
          replace hM1 := Lib.hid hM1
          replace hN1 := Lib.hid hN1
          go_wp2_with (fail)
          have hb1 := hW.alloc hW.size (.cells #[.pointer none, .slice none 0 0] BT)
          have hbd : Lib.IsBuilder BT 5 w.heap.size wr.heap.size (Lib.byteCells (rowsL zs x0 y9 M 0)) (wr.alloc (.cells #[.pointer none, .slice none 0 0] BT)) :=
            .inl ⟨hW.size, .slice none 0 0, Bk.fresh _ _ _, World.ownsRow_nil _ _ _ _, by simp [Value.ownBlock]⟩
          obtain ⟨X, hX⟩ : ∃ X, wr.alloc (.cells #[.pointer none, .slice none 0 0] BT) = X := ⟨_, rfl⟩
          obtain ⟨g, hg⟩ : ∃ g, wr.heap.size = g := ⟨_, rfl⟩
          unfold BT at hX
          unfold BT at hb1 hbd
          rw [hX] at hb1 hbd ⊢
          rw [hg] at hbd ⊢
          clear hX hg hW
          go_loopw [12] (fun y wq => ∃ (i yw : Nat), y = .float .f64 yw ∧ i ≤ N ∧ Hid (Wd yw (y9 - (i : Int)) ∧ Lib.IsBuilder BT 5 w.heap.size g (Lib.byteCells (rowsL zs x0 y9 M i)) wq ∧ Below w.heap.size w wq)) (fun y _ => (fZ y - y0 + 1).toNat)
          case atStart => exact ⟨0, u2, rfl, Nat.zero_le _, Lib.hid ⟨by rw [Int.natCast_zero, Int.sub_zero]; exact hu.out.2, hbd, hb1⟩⟩
          case round =>
            obtain ⟨i, yw, rfl, hi, hQ⟩ := hrel
            obtain ⟨hyw, hbd, hW⟩ := hQ.out
            clear hQ hb1
            have ho1 := wd_gtr hyw hl.out.2
            have ho2 := wd_eql hyw hl.out.2
            simp only at ho1 ho2
            by_cases hgo : i < N
            · have gg : (FloatKind.f64.format.order yw l2 == some .gt || FloatKind.f64.format.order yw l2 == some .eq) = true := by
                rw [ho1, ho2]
                have := hy0.out
                by_cases e : y9 - (i : Int) = y0
                · rw [decide_eq_true e, Bool.or_true]
                · rw [decide_eq_true (by omega), Bool.true_or]
              clear ho1 ho2
              have hL0 : lineL zs x0 (y9 - (i : Int)) 0 = [] := rfl
              replace hyw := Lib.hid hyw
              go_wp2_with (fail)
              go_loopw [13, 14] (fun s x wq2 => ∃ (k xw : Nat), s = .string ⟨(lineL zs x0 (y9 - (i : Int)) k).toArray⟩ ∧ x = .float .f64 xw ∧ k ≤ M ∧ Hid (Wd xw (x0 + (k : Int)) ∧ Lib.IsBuilder BT 5 w.heap.size g (Lib.byteCells (rowsL zs x0 y9 M i)) wq2 ∧ Below w.heap.size w wq2)) (fun _ x _ => (x9 + 1 - fZ x).toNat)
              case atStart => exact ⟨0, l1, by rw [hL0], rfl, Nat.zero_le _, Lib.hid ⟨by rw [Int.natCast_zero, Int.add_zero]; exact hl.out.1, hbd, hW⟩⟩
              case round =>
                obtain ⟨k, xw, rfl, rfl, hk, hQ⟩ := hrel
                obtain ⟨hxw, hbd, hW⟩ := hQ.out
                clear hQ
                have hc1 := wd_lss hxw hu.out.1
                have hc2 := wd_eql hxw hu.out.1
                simp only at hc1 hc2
                have hBw : w.heap.size ≤ wr.heap.size := hW.size
                by_cases hkM : k < M
                · have ll : (FloatKind.f64.format.order xw u1 == some .lt || FloatKind.f64.format.order xw u1 == some .eq) = true := by
                    rw [hc1, hc2]
                    have := hx9.out
                    by_cases e : x0 + (k : Int) = x9
                    · rw [decide_eq_true e, Bool.or_true]
                    · rw [decide_eq_true (by omega), Bool.true_or]
                  clear hc1 hc2
                  have hsg := sign_any _ xs zs j c wr hm.out (h.out.kept hW) hNks.out (by omega) hxw hyw.out
                  obtain ⟨z, hz⟩ : ∃ z, signZ zs (x0 + (k : Int), y9 - (i : Int)) = z := ⟨_, rfl⟩
                  rw [hz] at hsg
                  have hln := lineL_next zs x0 (y9 - (i : Int)) k
                  have hll := lineL_len zs x0 (y9 - (i : Int)) k
                  obtain ⟨Lk, hLk⟩ : ∃ Lk, lineL zs x0 (y9 - (i : Int)) k = Lk := ⟨_, rfl⟩
                  rw [hLk, hz] at hln
                  rw [hLk] at hll ⊢
                  have hM1' := hM1.out
                  have hcat := fun w => cat_run Lk [z] (by omega) (by simp) w
                  obtain ⟨r, hr1, hr2⟩ := wd_add hxw wd_pos1 (by have := hsm.out; have := hx9.out; omega)
                  have radd := fun t w => run_float_arith (P := Tryd.prog) w .add t .f64 _ _ r hr1
                  have hmeas : (x9 + 1 - fZ (.float .f64 r)).toNat < (x9 + 1 - fZ (.float .f64 xw)).toNat := by rw [fZ_is hr2, fZ_is hxw]; have := hx9.out; omega
                  replace hsg := Lib.hid hsg
                  replace hr2 := Lib.hid hr2
                  replace hln := Lib.hid hln
                  replace hmeas := Lib.hid hmeas
                  replace hbd := Lib.hid hbd
                  replace hW := Lib.hid hW
                  clear hz hll hLk hM1' hxw hr1 hL0
                  go_wp2_with (fail)
                  refine hsg.out.mono ?_
                  rintro e w2 ⟨rfl, hb2⟩
                  replace hb2 := Lib.hid hb2
                  go_wp2_with (fail)
                  exact ⟨⟨k + 1, r, by rw [hln.out], rfl, by omega, Lib.hid ⟨by have := hr2.out; rw [Int.add_assoc] at this; exact this, isb_below hbd.out hb2.out, hW.out.trans (hb2.out.mono hBw)⟩⟩, hmeas.out⟩
                · have ll : (FloatKind.f64.format.order xw u1 == some .lt || FloatKind.f64.format.order xw u1 == some .eq) = false := by
                    rw [hc1, hc2]
                    have := hx9.out
                    rw [decide_eq_false (by omega), decide_eq_false (by omega)]
                    rfl
                  obtain rfl : k = M := by omega
                  have hll := lineL_len zs x0 (y9 - (i : Int)) k
                  have hrn := rowsL_next zs x0 y9 k i
                  have hrl := rowsL_len zs x0 y9 k i
                  obtain ⟨Lk, hLk⟩ : ∃ Lk, lineL zs x0 (y9 - (i : Int)) k = Lk := ⟨_, rfl⟩
                  rw [hLk] at hll hrn
                  rw [hLk]
                  have hM1' := hM1.out
                  have hN1' := hN1.out
                  have htr := fun w => Tryd.strings_TrimRight_one ⟨Lk.toArray⟩ 32 (by decide) w (by show Lk.length ≤ _; omega)
                  have htl := trim_len Lk 32
                  simp only [] at htr
                  obtain ⟨T, hT⟩ : ∃ T, Lib.trimRightB Lk 32 = T := ⟨_, rfl⟩
                  rw [hT] at htr htl hrn
                  have hcat := fun w => cat_run T [10] (by omega) (by simp) w
                  obtain ⟨r, hr1, hr2⟩ := wd_sub hyw.out wd_pos1 (by have := hsm.out; have := hy0.out; omega)
                  have rsub := fun t w => run_float_arith (P := Tryd.prog) w .sub t .f64 _ _ r hr1
                  have hmeas : (fZ (.float .f64 r) - y0 + 1).toNat < (fZ (.float .f64 yw) - y0 + 1).toNat := by rw [fZ_is hr2, fZ_is hyw.out]; have := hy0.out; omega
                  have hlen : (Lib.byteCells (rowsL zs x0 y9 k i)).length + (ByteArray.mk (T ++ [10]).toArray).size ≤ 140737488355328 := by
                    rw [Lib.byteCells_length]
                    show _ + (T ++ [10]).length ≤ _
                    rw [List.length_append]
                    have : i * (k + 1) ≤ 100 * 101 := Nat.mul_le_mul (by omega) (by omega)
                    simp only [List.length_cons, List.length_nil]
                    omega
                  have hwr := bwrite_any w.heap.size g _ ⟨(T ++ [10]).toArray⟩ wr hbd hlen hBw
                  rw [cells_str, cells_cat, ← hrn] at hwr
                  replace htr := Lib.hid htr
                  replace hwr := Lib.hid hwr
                  replace hr2 := Lib.hid hr2
                  replace hmeas := Lib.hid hmeas
                  replace hW := Lib.hid hW
                  clear hll hrn hrl hLk hM1' hN1' htl hT hr1 hlen hxw hL0 hc1 hc2 hbd
                  go_wp2_with (fail)
                  refine (htr.out _).mono ?_
                  rintro e w2 ⟨rfl, hw_⟩
                  have hw_ := hw_.symm
                  subst hw_
                  go_wp2_with (fail)
                  refine hwr.out.mono ?_
                  rintro e w3 ⟨rfl, hbd3, hb3⟩
                  replace hbd3 := Lib.hid hbd3
                  replace hb3 := Lib.hid hb3
                  go_wp2_with (fail)
                  exact ⟨⟨i + 1, r, rfl, by omega, Lib.hid ⟨by have := hr2.out; rw [show y9 - ((i + 1 : Nat) : Int) = y9 - (i : Int) - 1 by omega]; exact this, hbd3.out, hW.out.trans hb3.out⟩⟩, hmeas.out⟩
            · have gg : (FloatKind.f64.format.order yw l2 == some .gt || FloatKind.f64.format.order yw l2 == some .eq) = false := by
                rw [ho1, ho2]
                have := hy0.out
                rw [decide_eq_false (by omega), decide_eq_false (by omega)]
                rfl
              obtain rfl : i = N := by omega
              have hst := Tryd.Builder_String_any w.heap.size g _ wr hbd hW.size
              obtain ⟨R, hR⟩ : ∃ R, rowsL zs x0 y9 M i = R := ⟨_, rfl⟩
              rw [hR] at hst hv
              replace hst := Lib.hid hst
              replace hW := Lib.hid hW
              clear hbd hR hyw ho1 ho2
              go_wp2_with (fail)
              refine hst.out.mono ?_
              rintro e w2 ⟨rfl, hb2⟩
              go_wp2_with (fail)
              go_returns
              exact ⟨by rw [← hv.out]; rfl, hW.out.trans (hb2.mono (Nat.le_refl _))⟩
end Go.Proofs.YtndgcndmkfjdgaaDoor
