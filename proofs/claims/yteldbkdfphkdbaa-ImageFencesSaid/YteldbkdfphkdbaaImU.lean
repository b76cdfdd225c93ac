import Derived.Test.YteldbkdfphkdbaaImT
import Derived.Test.YteldbkdfphkdbaaImP
import Derived.Test.YteldbkdfphkdbaaImI
import Derived.Test.YteldbkdfphkdbaaPick
namespace Go.Proofs.Yteldbkdfphkdbaa
open Go.RowKit
set_option linter.unusedVariables false
set_option linter.unusedSimpArgs false
/-! writes: a call that may write, behind the seal -/
/-- what a mode may not write stays -/
def Kept (o : Bool) (md : Int) (L : Lay) (B B' : List UInt8) : Prop := B'.length = B.length ∧ ∀ i, (∀ r : Nat, 1 ≤ r → r ≤ 5 → mayN o true md r = 3 → ¬ (L.beg r ≤ i ∧ i < L.beg (r + 1))) → B'.getD i 0 = B.getD i 0
theorem Kept.refl (o : Bool) (md : Int) (L : Lay) (B : List UInt8) : Kept o md L B B := ⟨rfl, fun _ _ => rfl⟩
theorem Kept.trans {o : Bool} {md : Int} {L : Lay} {A B C : List UInt8} (h : Kept o md L A B) (k : Kept o md L B C) : Kept o md L A C := ⟨k.1.trans h.1, fun i hi => (k.2 i hi).trans (h.2 i hi)⟩
theorem kept_splice {o : Bool} {md : Int} {L : Lay} {B : List UInt8} (hL : L.ok) (hl : B.length = L.b6) (x : Nat) (cs : List UInt8) (hok : rowOk L o true md x (cs.length : Int) 2) : Kept o md L B (splice B x cs) := by
  have hlen := row_len hL hok
  obtain ⟨h1, h2, h3⟩ := hok
  have hr := reg_in hL x h1
  have h5 := reg_le L x
  have hf : x + cs.length ≤ B.length := by omega
  refine ⟨splice_len _ _ _ hf, fun i hi => ?_⟩
  have h3 : mayN o true md (L.reg x) = 3 := by
    rcases h3 with h | ⟨_, h⟩
    · exact h
    · exact absurd h (by decide)
  have := hi (L.reg x) (by omega) h5 h3
  exact getD_out _ _ _ _ hf (by omega)
section
variable {p b : Nat} {L : Lay} {B : List UInt8} {o : Bool} {md : Int} {w : World}
def Out (p b : Nat) (L : Lay) (B : List UInt8) (o : Bool) (md : Int) (w : World) (e : Ending) (w' : World) : Prop :=
  ∃ (f : Int) (B' : List UInt8), e = .returned (.int .i64 f) ∧ (f = 0 ∨ f = 5) ∧ (f ≠ 0 → B' = B) ∧ Im w' p b L B' o true ∧ Kept o md L B B' ∧ Only b w w'
theorem Out.none (h : Im w p b L B o true) {f : Int} (hf : f = 0 ∨ f = 5) {w' : World} (hb : Below w.heap.size w w') : Out p b L B o md w (.returned (.int .i64 f)) w' := ⟨f, B, rfl, hf, fun _ => rfl, h.bel hb, Kept.refl _ _ _ _, Only.of_below hb b⟩
theorem Below.same (w : World) : Below w.heap.size w w := Below.refl _ _
theorem out_setbyte (h : Im w p b L B o true) (a : Nat) (c : UInt8) (ha : a ≤ 1048576) : Calls Try.prog 26 #[.pointer (some ⟨p, 0, none⟩), .int .i64 md, .int .i64 a, .int .u8 (c.toNat : Int)] w (Out p b L B o md w) := by
  by_cases hok : rowOk L o true md a 1 2
  · refine (setbyte_yes h a c hok).mono fun e w' g => ?_
    obtain ⟨rfl, hI, hO⟩ := g
    have hk := kept_splice h.ok h.len a [c] hok
    have hlen := row_len h.ok hok
    have e1 : splice B a [c] = B.set a c := by
      have hlt : a < B.length := by rw [h.len]; omega
      unfold splice
      rw [List.set_eq_take_append_cons_drop, if_pos hlt]
      simp
    rw [e1] at hk
    exact ⟨0, _, rfl, .inl rfl, fun h => absurd rfl h, hI, hk, hO⟩
  · refine (setbyte_no h a _ (by omega) hok).mono fun e w' g => ?_
    obtain ⟨rfl, rfl⟩ := g
    exact Out.none h (.inr rfl) (Below.same _)
theorem out_setcell (h : Im w p b L B o true) (a : Nat) (v : Int) (ha : a ≤ 1048576) (h8 : a % 8 = 0) : Calls Try.prog 24 #[.pointer (some ⟨p, 0, none⟩), .int .i64 md, .int .i64 a, .int .i64 v] w (Out p b L B o md w) := by
  by_cases hok : rowOk L o true md a 8 2
  · refine (setcell_yes h a v h8 hok).mono fun e w' g => ?_
    obtain ⟨rfl, hI, hO⟩ := g
    exact ⟨0, _, rfl, .inl rfl, fun h => absurd rfl h, hI, kept_splice h.ok h.len a (by8 v) (by rw [by8_length]; exact hok), hO⟩
  · refine (setcell_no h a v (by omega) (by omega) hok).mono fun e w' g => ?_
    obtain ⟨rfl, rfl⟩ := g
    exact Out.none h (.inr rfl) (Below.same _)
theorem out_move (h : Im w p b L B o true) (x y n : Nat) (hx : x ≤ 1048576) (hy : y ≤ 1048576) (hn : n ≤ 1048576) : Calls Try.prog 31 #[.pointer (some ⟨p, 0, none⟩), .int .i64 md, .int .i64 x, .int .i64 y, .int .i64 n] w (Out p b L B o md w) := by
  by_cases h0 : n = 0
  · subst h0
    refine (move_zero h x y).mono fun e w' g => ?_
    obtain ⟨rfl, rfl⟩ := g
    exact Out.none h (.inl rfl) (Below.same _)
  · by_cases hok : rowOk L o true md x n 1 ∧ rowOk L o true md y n 2
    · refine (move_yes h x y n (by omega) hok.1 hok.2).mono fun e w' g => ?_
      obtain ⟨rfl, hI, hO⟩ := g
      have hlx := row_len h.ok hok.1
      refine ⟨0, _, rfl, .inl rfl, fun h => absurd rfl h, hI, kept_splice h.ok h.len y _ ?_, hO⟩
      rw [rowL_len B x n (by rw [h.len]; omega)]
      exact hok.2
    · refine (move_no h x y n (by omega) (by omega) (by omega) (by omega) hok).mono fun e w' g => ?_
      obtain ⟨rfl, rfl⟩ := g
      exact Out.none h (.inr rfl) (Below.same _)
theorem out_fill (h : Im w p b L B o true) (x n : Nat) (c : UInt8) (hx : x ≤ 1048576) (hn : n ≤ 1048576) : Calls Try.prog 46 #[.pointer (some ⟨p, 0, none⟩), .int .i64 md, .int .i64 x, .int .i64 n, .int .u8 (c.toNat : Int)] w (Out p b L B o md w) := by
  by_cases h0 : n = 0
  · subst h0
    refine (fill_zero h x c).mono fun e w' g => ?_
    obtain ⟨rfl, hb⟩ := g
    exact Out.none h (.inl rfl) hb
  · by_cases hok : rowOk L o true md x n 2
    · refine (fill_yes h x n c (by omega) hok).mono fun e w' g => ?_
      obtain ⟨rfl, hI, hO⟩ := g
      refine ⟨0, _, rfl, .inl rfl, fun h => absurd rfl h, hI, kept_splice h.ok h.len x _ ?_, hO⟩
      rw [List.length_replicate]
      exact hok
    · refine (fill_no h x n c (by omega) (by omega) (by omega) hok).mono fun e w' g => ?_
      obtain ⟨rfl, rfl⟩ := g
      exact Out.none h (.inr rfl) (Below.same _)
theorem Out.base {W : World} {e : Ending} {w' : World} (hb : Below w.heap.size w W) (h : Out p b L B o md W e w') : Out p b L B o md w e w' := by
  obtain ⟨f, B', h1, h2, h3, h4, h5, h6⟩ := h
  exact ⟨f, B', h1, h2, h3, h4, h5, (Only.of_below hb b).trans h6⟩
theorem span_reg {s : Bool} (h : Im w p b L B o s) (r : Nat) (h1 : 1 ≤ r) (h5 : r ≤ 5) : Calls Try.prog 15 #[.pointer (some ⟨p, 0, none⟩), .int .i64 r] w fun e w' => e = .returned (.tuple #[.int .i64 (L.beg r), .int .i64 (L.beg (r + 1))]) ∧ ∃ n, w' = w.drewN n := by
  have := span_any p b L B o s r w h
  rw [show L.from_ r = L.beg r by unfold Lay.from_; rw [if_neg (by omega), if_neg (by omega)]; simp, show L.to_ r = L.beg (r + 1) by unfold Lay.to_; rw [if_neg (by omega), if_neg (by omega)]; simp] at this
  exact this
set_option maxRecDepth 100000 in
set_option maxHeartbeats 4000000 in
theorem writes_any (h : Im w p b L B o true) (o0 o1 o2 o3 o4 o5 o6 : Int) (fr : Bool) (tx : ByteArray) (i0 : inI o0) (i2 : inI o2) (i3 : inI o3) (i4 : inI o4) (i5 : inI o5) (i6 : inI o6) :
    Calls Try.prog 33 #[.pointer (some ⟨p, 0, none⟩), .agg #[.int .i64 o0, .int .i64 o1, .int .i64 o2, .int .i64 o3, .int .i64 o4, .int .i64 o5, .int .i64 o6, .bool fr, .string tx], .int .i64 md] w fun e w' => ∃ f B', e = .returned (.int .i64 f) ∧ ((f = 0 ∨ f = 5) ∧ (f ≠ 0 → B' = B) ∧ Im w' p b L B' o true ∧ Kept o md L B B' ∧ Only b w w') := by
  have p2 := fun W => pick_any o2 5 W i2.1 i2.2 (by decide) (by decide)
  have p6 := fun W => pick_any o6 5 W i6.1 i6.2 (by decide) (by decide)
  have p0 := fun W => pick_any o0 4 W i0.1 i0.2 (by decide) (by decide)
  have p5 := fun W => pick_any o5 100 W i5.1 i5.2 (by decide) (by decide)
  have l2 := pickN_lt o2 5 (by decide)
  have l6 := pickN_lt o6 5 (by decide)
  have l0 := pickN_lt o0 4 (by decide)
  have l5 := pickN_lt o5 100 (by decide)
  simp only [show (5 : Int).toNat = 5 from rfl, show (4 : Int).toNat = 4 from rfl, show (100 : Int).toNat = 100 from rfl] at p2 p6 p0 p5
  generalize pickN o2 5 = r2 at *
  generalize pickN o6 5 = r6 at *
  generalize pickN o0 4 = k at *
  generalize pickN o5 100 = n at *
  have m := Lay.mono h.ok
  have bl := fun r (h1 : 1 ≤ r) (h5 : r ≤ 5) => beg_le h.ok r h1 h5
  have bA := bl (1 + r2) (by omega) (by omega)
  have bB := bl (1 + r6) (by omega) (by omega)
  have spA := fun (W : World) (hW : Below w.heap.size w W) => span_reg (h.bel hW) (1 + r2) (by omega) (by omega)
  have spB := fun (W : World) (hW : Below w.heap.size w W) => span_reg (h.bel hW) (1 + r6) (by omega) (by omega)
  obtain ⟨f1, hf1⟩ : ∃ f, L.beg (1 + r2) = f := ⟨_, rfl⟩
  obtain ⟨u1, hu1⟩ : ∃ u, L.beg (1 + r2 + 1) = u := ⟨_, rfl⟩
  obtain ⟨f2, hf2⟩ : ∃ f, L.beg (1 + r6) = f := ⟨_, rfl⟩
  obtain ⟨u2, hu2⟩ : ∃ u, L.beg (1 + r6 + 1) = u := ⟨_, rfl⟩
  simp only [hf1, hu1] at spA bA
  simp only [hf2, hu2] at spB bB
  rw [Int.natCast_add] at *
  clear hf1 hu1 hf2 hu2 bl m
  have p3 := fun W => pick_any o3 ((u1 : Int) - f1 + 16) W i3.1 i3.2 (by omega) (by omega)
  have p4 := fun W => pick_any o4 ((u2 : Int) - f2 + 16) W i4.1 i4.2 (by omega) (by omega)
  have l3 := pickN_lt o3 ((u1 : Int) - f1 + 16).toNat (by omega)
  have l4 := pickN_lt o4 ((u2 : Int) - f2 + 16).toNat (by omega)
  generalize pickN o3 ((u1 : Int) - f1 + 16).toNat = d1 at *
  generalize pickN o4 ((u2 : Int) - f2 + 16).toNat = d2 at *
  have g1 : (f1 : Int) ≤ 143360 ∧ (u1 : Int) ≤ 143360 ∧ (f1 : Int) ≤ u1 ∧ (d1 : Int) ≤ 143376 := by omega
  have g2 : (f2 : Int) ≤ 143360 ∧ (u2 : Int) ≤ 143360 ∧ (f2 : Int) ≤ u2 ∧ (d2 : Int) ≤ 143376 := by omega
  obtain ⟨g11, g12, g13, g14⟩ := g1
  obtain ⟨g21, g22, g23, g24⟩ := g2
  have gr2 : (r2 : Int) ≤ 4 := by omega
  have gr6 : (r6 : Int) ≤ 4 := by omega
  have hh := Lib.hid h
  clear i0 i2 i3 i4 i5 i6 l2 l6 l3 l4 bA bB h
  replace p0 := Lib.hid p0
  replace p2 := Lib.hid p2
  replace p3 := Lib.hid p3
  replace p4 := Lib.hid p4
  replace p5 := Lib.hid p5
  replace p6 := Lib.hid p6
  replace spA := Lib.hid spA
  replace spB := Lib.hid spB
  go_enter Try.func33, Try.ntmps33
  go_wp2_with (fail)
  have hBx := Bk.fresh w 62 #[.int .i64 o0, .int .i64 o1, .int .i64 o2, .int .i64 o3, .int .i64 o4, .int .i64 o5, .int .i64 o6, .bool fr, .string tx]
  have hlx : Below w.heap.size w (w.alloc (.cells #[.int .i64 o0, .int .i64 o1, .int .i64 o2, .int .i64 o3, .int .i64 o4, .int .i64 o5, .int .i64 o6, .bool fr, .string tx] 62)) := (Below.refl _ _).alloc (Nat.le_refl _) _
  obtain ⟨X, hX⟩ : ∃ X, w.alloc (.cells #[.int .i64 o0, .int .i64 o1, .int .i64 o2, .int .i64 o3, .int .i64 o4, .int .i64 o5, .int .i64 o6, .bool fr, .string tx] 62) = X := ⟨_, rfl⟩
  rw [hX] at hBx hlx ⊢
  obtain ⟨y, hy⟩ : ∃ y, w.heap.size = y := ⟨_, rfl⟩
  rw [hy] at hBx ⊢
  clear hX hy
  have x0 := hBx.cell 0
  have x2 := hBx.cell 2
  have x3 := hBx.cell 3
  have x4 := hBx.cell 4
  have x5 := hBx.cell 5
  have x6 := hBx.cell 6
  simp at x0 x2 x3 x4 x5 x6
  clear hBx
  refine (p2.out X).mono ?_
  rintro e w1 ⟨rfl, hw_⟩
  have hw_ := hw_.symm
  subst hw_
  go_wp2_with (fail)
  refine (spA.out X hlx).mono ?_
  rintro e w1 ⟨rfl, n1, hn_⟩
  have hn_ := hn_.symm
  subst hn_
  go_wp2_with (fail)
  refine (p3.out _).mono ?_
  rintro e w1 ⟨rfl, hw_⟩
  have hw_ := hw_.symm
  subst hw_
  go_wp2_with (fail)
  refine (p6.out _).mono ?_
  rintro e w1 ⟨rfl, hw_⟩
  have hw_ := hw_.symm
  subst hw_
  go_wp2_with (fail)
  refine (spB.out (X.drewN n1) (hlx.trans ⟨rfl, rfl, rfl, Nat.le_refl _, fun _ _ => rfl⟩)).mono ?_
  rintro e w1 ⟨rfl, n2, hn_⟩
  have hn_ := hn_.symm
  subst hn_
  go_wp2_with (fail)
  refine (p4.out _).mono ?_
  rintro e w1 ⟨rfl, hw_⟩
  have hw_ := hw_.symm
  subst hw_
  go_wp2_with (fail)
  refine (p0.out _).mono ?_
  rintro e w1 ⟨rfl, hw_⟩
  have hw_ := hw_.symm
  subst hw_
  have hb5 : Below w.heap.size w ((X.drewN n1).drewN n2) := hlx.trans ⟨rfl, rfl, rfl, Nat.le_refl _, fun _ _ => rfl⟩
  have hI : Im ((X.drewN n1).drewN n2) p b L B o true := hh.out.bel hb5
  obtain ⟨c, hc⟩ : ∃ c : UInt8, o6 % 256 = (c.toNat : Int) := ⟨UInt8.ofNat (o6 % 256).toNat, by simp; omega⟩
  obtain ⟨at_, hat⟩ : ∃ a : Nat, (f1 : Int) + (d1 : Int) = (a : Int) := ⟨f1 + d1, by omega⟩
  obtain ⟨ot, hot⟩ : ∃ a : Nat, (f2 : Int) + (d2 : Int) = (a : Int) := ⟨f2 + d2, by omega⟩
  have ha1 : at_ ≤ 1048576 := by omega
  have ha2 : ot ≤ 1048576 := by omega
  have qB := Lib.hid (fun (W : World) (hW : Im W p b L B o true) => out_setbyte (md := md) hW at_ c ha1)
  have qC := Lib.hid (fun (W : World) (hW : Im W p b L B o true) => out_setcell (md := md) hW (at_ - at_ % 8) o6 (by omega) (by omega))
  have qM := Lib.hid (fun (W : World) (hW : Im W p b L B o true) => out_move (md := md) hW ot at_ n ha2 ha1 (by omega))
  have qF := Lib.hid (fun (W : World) (hW : Im W p b L B o true) => out_fill (md := md) hW at_ n c ha1 (by omega))
  have e8 : (at_ : Int).tmod 8 = ((at_ % 8 : Nat) : Int) := by rw [Int.tmod_eq_emod_of_nonneg (by omega)]; omega
  have e9 : (at_ : Int) - ((at_ % 8 : Nat) : Int) = ((at_ - at_ % 8 : Nat) : Int) := by omega
  have e10 : (at_ : Int) ≤ 1048576 := by omega
  have e11 : ((at_ % 8 : Nat) : Int) ≤ 7 := by omega
  obtain ⟨a8, ha8⟩ : ∃ x, at_ % 8 = x := ⟨_, rfl⟩
  rw [ha8] at e8 e9 e11
  rw [World.drewN_drewN] at hI hb5
  replace hb5 := Lib.hid hb5
  replace hI := Lib.hid hI
  have hkk := l0
  rw [hat, hot]
  clear l0 hat hot hh p0 p2 p3 p4 p6 spA spB x2 x3 x4 x0 hlx ha1 ha2 g11 g12 g13 g14 g21 g22 g23 g24 gr2 gr6
  rcases (by omega : k = 0 ∨ k = 1 ∨ k = 2 ∨ k = 3) with rfl | rfl | rfl | rfl
  all_goals clear hkk
  · go_wp2_with (go_at_call 26; refine (qB.out _ hI.out).mono ?_; rintro e w2 hO1; have hO2 := Out.base hb5.out hO1; clear hO1; obtain ⟨f, B', rfl, hO⟩ := hO2; replace hO := Lib.hid hO)
    go_returns
    exact ⟨f, B', rfl, hO.out⟩
  · rw [ha8] at qC
    go_wp2_with (go_at_call 24; refine (qC.out _ hI.out).mono ?_; rintro e w2 hO1; have hO2 := Out.base hb5.out hO1; clear hO1; obtain ⟨f, B', rfl, hO⟩ := hO2; replace hO := Lib.hid hO)
    go_returns
    exact ⟨f, B', rfl, hO.out⟩
  · go_wp2_with (fail)
    refine (p5.out _).mono ?_
    rintro e w1 ⟨rfl, hw_⟩
    have hw_ := hw_.symm
    subst hw_
    go_wp2_with (go_at_call 31; refine (qM.out _ hI.out).mono ?_; rintro e w2 hO1; have hO2 := Out.base hb5.out hO1; clear hO1; obtain ⟨f, B', rfl, hO⟩ := hO2; replace hO := Lib.hid hO)
    go_returns
    exact ⟨f, B', rfl, hO.out⟩
  · go_wp2_with (fail)
    obtain ⟨W5, hW5⟩ : ∃ W5, X.drewN (n1 + n2) = W5 := ⟨_, rfl⟩
    have x5' : W5.cell? ⟨y, 5, none⟩ = some (.int .i64 o5) := by rw [← hW5]; exact x5
    have x6' : W5.cell? ⟨y, 6, none⟩ = some (.int .i64 o6) := by rw [← hW5]; exact x6
    rw [hW5] at hI hb5 ⊢
    clear x5 x6 hW5
    have hI6 := Lib.hid (hI.out.draws 1)
    have hu : IntKind.u8.wrap o6 = (c.toNat : Int) := by rw [← hc]; simp [IntKind.wrap, IntKind.bits, IntKind.signed]
    go_still_tail 9, (by kernel_rfl)
    still_call (p5.out _)
    repeat still_step
    refine wpStill_nil ?_
    change wpList _ _ _ _ _ W5.drew
    go_wp2_with (fail)
    refine (qF.out _ hI6.out).mono ?_
    rintro e w2 hO1
    have hO2 := Out.base hb5.out (Out.base (⟨rfl, rfl, rfl, Nat.le_refl _, fun _ _ => rfl⟩ : Below W5.heap.size W5 W5.drew) hO1)
    clear hO1
    obtain ⟨f, B', rfl, hO⟩ := hO2
    replace hO := Lib.hid hO
    go_wp2_with (fail)
    go_returns
    exact ⟨f, B', rfl, hO.out⟩
end
end Go.Proofs.Yteldbkdfphkdbaa
