import Derived.Test.YtmmfjonoenmplaaDoorGaB
namespace Go.Proofs.YtmmfjonoenmplaaDoor
open Go.RowKit Go.Extern.Stop Go.Stop Go.Extern
set_option linter.unusedVariables false
set_option linter.unusedSimpArgs false
/-! gauss.Add, Sub, Mul, Conj -/
def fres (x y : Nat) (o : Option Nat) : Sem Value := match o with
  | some r => pure (.float .f64 r)
  | none => do pure (.float .f64 (← choose (.nanBits .f64 x y)))
theorem fres_any (x y : Nat) (o : Option Nat) (w : World) : ∃ r n, (fres x y o).run Tryd.prog w = .ok (.float .f64 r) (w.drewN n) := by
  cases o with
  | some r => exact ⟨r, 0, rfl⟩
  | none =>
    obtain ⟨k, hk⟩ : ∃ k, (choose (.nanBits .f64 x y)).run Tryd.prog w = .ok k w.drew := ⟨_, rfl⟩
    refine ⟨k, 1, ?_⟩
    simp only [fres, Sem.run_bind, hk]
    rfl
theorem arith_any (op : BinOp) (h : op = .add ∨ op = .sub ∨ op = .mul) (x y : Nat) (w : World) : ∃ r n, (Op.Complex.arith op .f64 x y).run Tryd.prog w = .ok r (w.drewN n) := by
  have hb : ∃ r n, (Op.floatArith op .f64 x y).run Tryd.prog w = .ok (.float .f64 r) (w.drewN n) := by
    rcases h with rfl | rfl | rfl
    · exact fres_any x y (Ieee.double.add x y) w
    · exact fres_any x y (Ieee.double.sub x y) w
    · exact fres_any x y (Ieee.double.mul x y) w
  obtain ⟨r, n, hr⟩ := hb
  exact ⟨r, n, by simp only [Op.Complex.arith, Sem.run_bind, hr]; rfl⟩
theorem csum_any (op : BinOp) (h : op = .add ∨ op = .sub) (t : TypeId) (a b c d : Nat) (w : World) : ∃ r s n, (binOp op t (.complex .f64 a b) (.complex .f64 c d)).run Tryd.prog w = .ok (.complex .f64 r s) (w.drewN n) := by
  obtain ⟨r, n, h1⟩ := arith_any op (by rcases h with h | h <;> simp [h]) a c w
  obtain ⟨s, m, h2⟩ := arith_any op (by rcases h with h | h <;> simp [h]) b d (w.drewN n)
  refine ⟨r, s, n + m, ?_⟩
  rcases h with rfl | rfl
  · simp [binOp, Op.complexOp, h1, h2]
  · simp [binOp, Op.complexOp, h1, h2]
theorem cmul_any (t : TypeId) (a b c d : Nat) (w : World) : ∃ r s n, (binOp .mul t (.complex .f64 a b) (.complex .f64 c d)).run Tryd.prog w = .ok (.complex .f64 r s) (w.drewN n) := by
  obtain ⟨r1, n1, h1⟩ := arith_any .mul (by simp) a c w
  obtain ⟨r2, n2, h2⟩ := arith_any .mul (by simp) b d (w.drewN n1)
  obtain ⟨r3, n3, h3⟩ := arith_any .sub (by simp) r1 r2 (w.drewN (n1 + n2))
  obtain ⟨r4, n4, h4⟩ := arith_any .mul (by simp) a d (w.drewN (n1 + n2 + n3))
  obtain ⟨r5, n5, h5⟩ := arith_any .mul (by simp) b c (w.drewN (n1 + n2 + n3 + n4))
  obtain ⟨r6, n6, h6⟩ := arith_any .add (by simp) r4 r5 (w.drewN (n1 + n2 + n3 + n4 + n5))
  refine ⟨r3, r6, n1 + n2 + n3 + n4 + n5 + n6, ?_⟩
  simp [binOp, Op.complexOp, Op.Complex.conv, Op.Complex.product, Op.Complex.mul, Op.Complex.sub, Op.Complex.add, h1, h2, h3, h4, h5, h6, World.drewN_drewN]
theorem csum_fun (op : BinOp) (h : op = .add ∨ op = .sub) (t : TypeId) (a b c d : Nat) : ∃ f : World → Nat × Nat × Nat, ∀ w, (binOp op t (.complex .f64 a b) (.complex .f64 c d)).run Tryd.prog w = .ok (.complex .f64 (f w).1 (f w).2.1) (w.drewN (f w).2.2) :=
  ⟨fun w => ((csum_any op h t a b c d w).choose, (csum_any op h t a b c d w).choose_spec.choose, (csum_any op h t a b c d w).choose_spec.choose_spec.choose), fun w => (csum_any op h t a b c d w).choose_spec.choose_spec.choose_spec⟩
theorem cmul_fun (t : TypeId) (a b c d : Nat) : ∃ f : World → Nat × Nat × Nat, ∀ w, (binOp .mul t (.complex .f64 a b) (.complex .f64 c d)).run Tryd.prog w = .ok (.complex .f64 (f w).1 (f w).2.1) (w.drewN (f w).2.2) :=
  ⟨fun w => ((cmul_any t a b c d w).choose, (cmul_any t a b c d w).choose_spec.choose, (cmul_any t a b c d w).choose_spec.choose_spec.choose), fun w => (cmul_any t a b c d w).choose_spec.choose_spec.choose_spec⟩
/-- a number by its words and by its parts -/
def Nm (x : Nat × Nat) (z : Int × Int) : Prop := Wd x.1 z.1 ∧ Wd x.2 z.2
def Sm (z : Int × Int) (B : Int) : Prop := -B ≤ z.1 ∧ z.1 ≤ B ∧ -B ≤ z.2 ∧ z.2 ≤ B
theorem nm_sum {x y : Nat × Nat} {a b : Int × Int} (hx : Nm x a) (hy : Nm y b) (ha : Sm a 1125899906842624) (hb : Sm b 1125899906842624) (t : TypeId) : ∃ r : Nat × Nat, Nm r (a.1 + b.1, a.2 + b.2) ∧ ∀ w, (binOp .add t (.complex .f64 x.1 x.2) (.complex .f64 y.1 y.2)).run Tryd.prog w = .ok (.complex .f64 r.1 r.2) w := by
  unfold Sm at ha hb
  obtain ⟨r, h1, h2⟩ := wd_add hx.1 hy.1 (by omega)
  obtain ⟨s, h3, h4⟩ := wd_add hx.2 hy.2 (by omega)
  refine ⟨(r, s), ⟨h2, h4⟩, fun w => run_complex_sum w .add (.inl rfl) t .f64 _ _ _ _ _ _ ?_⟩
  have e1 : floatBits .add .f64 x.1 y.1 = some r := h1
  have e2 : floatBits .add .f64 x.2 y.2 = some s := h3
  simp [cSumBits, e1, e2]
theorem nm_sub {x y : Nat × Nat} {a b : Int × Int} (hx : Nm x a) (hy : Nm y b) (ha : Sm a 1125899906842624) (hb : Sm b 1125899906842624) (t : TypeId) : ∃ r : Nat × Nat, Nm r (a.1 - b.1, a.2 - b.2) ∧ ∀ w, (binOp .sub t (.complex .f64 x.1 x.2) (.complex .f64 y.1 y.2)).run Tryd.prog w = .ok (.complex .f64 r.1 r.2) w := by
  unfold Sm at ha hb
  obtain ⟨r, h1, h2⟩ := wd_sub hx.1 hy.1 (by omega)
  obtain ⟨s, h3, h4⟩ := wd_sub hx.2 hy.2 (by omega)
  refine ⟨(r, s), ⟨h2, h4⟩, fun w => run_complex_sum w .sub (.inr rfl) t .f64 _ _ _ _ _ _ ?_⟩
  have e1 : floatBits .sub .f64 x.1 y.1 = some r := h1
  have e2 : floatBits .sub .f64 x.2 y.2 = some s := h3
  simp [cSumBits, e1, e2]
theorem prod_le {a b A B : Int} (h1 : -A ≤ a) (h2 : a ≤ A) (h3 : -B ≤ b) (h4 : b ≤ B) : -(A * B) ≤ a * b ∧ a * b ≤ A * B := by
  have e : (a * b).natAbs = a.natAbs * b.natAbs := Int.natAbs_mul ..
  have h5 : a.natAbs ≤ A.natAbs := by omega
  have h6 : b.natAbs ≤ B.natAbs := by omega
  have h7 := Nat.mul_le_mul h5 h6
  have e2 : (A * B).natAbs = A.natAbs * B.natAbs := Int.natAbs_mul ..
  have h8 : 0 ≤ A * B := Int.mul_nonneg (by omega) (by omega)
  omega
theorem nm_mul {x y : Nat × Nat} {a b : Int × Int} (hx : Nm x a) (hy : Nm y b) (ha : Sm a 67108864) (hb : Sm b 16777216) (t : TypeId) : ∃ r : Nat × Nat, Nm r (a.1 * b.1 - a.2 * b.2, a.1 * b.2 + a.2 * b.1) ∧ ∀ w, (binOp .mul t (.complex .f64 x.1 x.2) (.complex .f64 y.1 y.2)).run Tryd.prog w = .ok (.complex .f64 r.1 r.2) w := by
  obtain ⟨a1, a2, a3, a4⟩ := ha
  obtain ⟨b1, b2, b3, b4⟩ := hb
  have p1 := prod_le a1 a2 b1 b2
  have p2 := prod_le a3 a4 b3 b4
  have p3 := prod_le a1 a2 b3 b4
  have p4 := prod_le a3 a4 b1 b2
  obtain ⟨r1, h1, g1⟩ := wd_mul hx.1 hy.1 (by omega)
  obtain ⟨r2, h2, g2⟩ := wd_mul hx.2 hy.2 (by omega)
  obtain ⟨r3, h3, g3⟩ := wd_sub g1 g2 (by omega)
  obtain ⟨r4, h4, g4⟩ := wd_mul hx.1 hy.2 (by omega)
  obtain ⟨r5, h5, g5⟩ := wd_mul hx.2 hy.1 (by omega)
  obtain ⟨r6, h6, g6⟩ := wd_add g4 g5 (by omega)
  refine ⟨(r3, r6), ⟨g3, g6⟩, fun w => run_complex_mul w t _ _ _ _ _ _ ?_⟩
  have e1 : floatBits .mul .f64 x.1 y.1 = some r1 := h1
  have e2 : floatBits .mul .f64 x.2 y.2 = some r2 := h2
  have e3 : floatBits .sub .f64 r1 r2 = some r3 := h3
  have e4 : floatBits .mul .f64 x.1 y.2 = some r4 := h4
  have e5 : floatBits .mul .f64 x.2 y.1 = some r5 := h5
  have e6 : floatBits .add .f64 r4 r5 = some r6 := h6
  simp [cMulBits, e1, e2, e3, e4, e5, e6]
theorem nm_rt {x : Nat × Nat} {z : Int × Int} (h : Nm x z) : (Rt x.1 ∧ Rt x.2) ↔ Sm z 16777216 := by
  rw [wd_rt h.1, wd_rt h.2]
  unfold Sm
  omega
theorem nm_lt {x : Nat × Nat} {z : Int × Int} (h : Nm x z) : x.1 < 18446744073709551616 ∧ x.2 < 18446744073709551616 := ⟨wd_lt h.1, wd_lt h.2⟩
/-- a right number has its parts -/
theorem rt_nm {x : Nat × Nat} (h : Rt x.1 ∧ Rt x.2) : ∃ z, Nm x z ∧ Sm z 16777216 := by
  obtain ⟨a, ha, h1⟩ := (rt_wd _).1 h.1
  obtain ⟨b, hb, h2⟩ := (rt_wd _).1 h.2
  exact ⟨(a, b), ⟨h1, h2⟩, by unfold Sm; simp only; omega⟩
theorem sm_mono {z : Int × Int} {A B : Int} (h : Sm z A) (hAB : A ≤ B) : Sm z B := by unfold Sm at *; omega
/-- the value of a number without a -0 -/
def cw (z : Int × Int) : Value := .complex .f64 (fi z.1 false) (fi z.2 false)
theorem nm_cw (z : Int × Int) (h : Sm z 4503599627370496) : Nm (fi z.1 false, fi z.2 false) z := by
  unfold Sm at h
  exact ⟨wd_fi _ _ (by omega), wd_fi _ _ (by omega)⟩
def bad : Value := .tuple #[.complex .f64 0 0, .int .i64 1]
def res (z : Int × Int) : Value := toldV z.1 z.2
theorem toldV_form (a b : Int) : ∃ v q, toldV a b = .tuple #[v, q] := by
  unfold toldV
  split <;> exact ⟨_, _, rfl⟩
/-- asked, of a block of two, of one -/
theorem asked2 (x y : Nat × Nat) (w : World) (g : Nat) (c0 : w.cell? ⟨g, 0, none⟩ = some (.complex .f64 x.1 x.2)) (c1 : w.cell? ⟨g, 1, none⟩ = some (.complex .f64 y.1 y.2)) (hx : x.1 < 18446744073709551616 ∧ x.2 < 18446744073709551616) (hy : y.1 < 18446744073709551616 ∧ y.2 < 18446744073709551616) :
    Calls Tryd.prog 47 #[.slice (some ⟨g, 0, none⟩) 2 2] w fun e w' => ∃ v, e = .returned v ∧ ((Rt x.1 ∧ Rt x.2) ∧ (Rt y.1 ∧ Rt y.2) ∧ v = .nilIface ∨ ¬ ((Rt x.1 ∧ Rt x.2) ∧ (Rt y.1 ∧ Rt y.2)) ∧ v = errArg) ∧ ∃ n, w' = w.drewN n := by
  refine (asked_any g [x, y] w ?_ (by simp)).mono ?_
  · intro j hj
    match j, hj with
    | 0, _ => exact ⟨c0, hx.1, hx.2⟩
    | 1, _ => exact ⟨c1, hy.1, hy.2⟩
  · rintro e w' ⟨v, rfl, h, hn⟩
    refine ⟨v, rfl, ?_, hn⟩
    unfold Rts at h
    simp only [List.mem_cons, List.not_mem_nil, or_false, forall_eq_or_imp, forall_eq] at h
    rcases h with ⟨h, rfl⟩ | ⟨h, rfl⟩
    · exact .inl ⟨h.1, h.2, rfl⟩
    · exact .inr ⟨h, rfl⟩
theorem asked1 (x : Nat × Nat) (w : World) (g : Nat) (c0 : w.cell? ⟨g, 0, none⟩ = some (.complex .f64 x.1 x.2)) (hx : x.1 < 18446744073709551616 ∧ x.2 < 18446744073709551616) :
    Calls Tryd.prog 47 #[.slice (some ⟨g, 0, none⟩) 1 1] w fun e w' => ∃ v, e = .returned v ∧ ((Rt x.1 ∧ Rt x.2) ∧ v = .nilIface ∨ ¬ (Rt x.1 ∧ Rt x.2) ∧ v = errArg) ∧ ∃ n, w' = w.drewN n := by
  refine (asked_any g [x] w ?_ (by simp)).mono ?_
  · intro j hj
    match j, hj with
    | 0, _ => exact ⟨c0, hx.1, hx.2⟩
  · rintro e w' ⟨v, rfl, h, hn⟩
    refine ⟨v, rfl, ?_, hn⟩
    unfold Rts at h
    simp only [List.mem_cons, List.not_mem_nil, or_false, forall_eq] at h
    exact h
set_option maxRecDepth 100000 in
theorem add_ok (x y : Nat × Nat) (a b : Int × Int) (hx : Nm x a) (hy : Nm y b) (ha : Sm a 16777216) (hb : Sm b 16777216) (w : World) : Calls Tryd.prog 20 #[.complex .f64 x.1 x.2, .complex .f64 y.1 y.2] w fun e w' => e = .returned (res (a.1 + b.1, a.2 + b.2)) ∧ Below w.heap.size w w' := by
  obtain ⟨r, hr, hrun⟩ := nm_sum hx hy (sm_mono ha (by decide)) (sm_mono hb (by decide)) 28
  obtain ⟨x1, x2⟩ := x
  obtain ⟨y1, y2⟩ := y
  have hrx := (nm_rt hx).2 ha
  have hry := (nm_rt hy).2 hb
  have lx := nm_lt hx
  have ly := nm_lt hy
  have ht := fun w => told_nil _ _ _ _ hr.1 hr.2 w
  have has := Lib.hid (fun (w : World) (g : Nat) (c0 : w.cell? ⟨g, 0, none⟩ = some (.complex .f64 x1 x2)) (c1 : w.cell? ⟨g, 1, none⟩ = some (.complex .f64 y1 y2)) => asked2 (x1, x2) (y1, y2) w g c0 c1 lx ly)
  replace ht := Lib.hid ht
  replace hrx := Lib.hid hrx
  replace hry := Lib.hid hry
  clear hx hy ha hb hr lx ly
  go_enter Tryd.func20, Tryd.ntmps20
  go_wp2_with (fail)
  have hB := (Below.refl w.heap.size w).alloc (Nat.le_refl _) (.cells #[.complex .f64 x1 x2, .complex .f64 y1 y2] 28)
  have hK := Bk.fresh w 28 #[.complex .f64 x1 x2, .complex .f64 y1 y2]
  obtain ⟨X, hX⟩ : ∃ X, w.alloc (.cells #[.complex .f64 x1 x2, .complex .f64 y1 y2] 28) = X := ⟨_, rfl⟩
  rw [hX] at hB hK ⊢
  refine (has.out X _ (hK.cell 0) (hK.cell 1)).mono ?_
  rintro e w1 ⟨v, rfl, hv, n, hn_⟩
  have hn_ := hn_.symm
  subst hn_
  obtain rfl : v = .nilIface := by
    rcases hv with h | h
    · exact h.2.2
    · exact absurd ⟨hrx.out, hry.out⟩ h.1
  clear hv
  have hB2 : Below w.heap.size w (X.drewN n) := hB.trans ⟨rfl, rfl, rfl, Nat.le_refl _, fun _ _ => rfl⟩
  go_wp2_with (fail)
  refine (ht.out _).mono ?_
  rintro e w2 ⟨rfl, n2, hn_⟩
  have hB3 : Below w.heap.size w w2 := by rw [hn_]; exact hB2.trans ⟨rfl, rfl, rfl, Nat.le_refl _, fun _ _ => rfl⟩
  clear hn_ hB2 hB hK
  obtain ⟨v, q, hvq⟩ := toldV_form (a.1 + b.1) (a.2 + b.2)
  rw [hvq]
  go_wp2_with (fail)
  go_returns
  refine ⟨?_, hB3⟩
  unfold res
  rw [hvq]
  rfl
set_option maxRecDepth 100000 in
theorem add_bad (x y : Nat × Nat) (lx : x.1 < 18446744073709551616 ∧ x.2 < 18446744073709551616) (ly : y.1 < 18446744073709551616 ∧ y.2 < 18446744073709551616) (hno : ¬ ((Rt x.1 ∧ Rt x.2) ∧ (Rt y.1 ∧ Rt y.2))) (w : World) : Calls Tryd.prog 20 #[.complex .f64 x.1 x.2, .complex .f64 y.1 y.2] w fun e w' => e = .returned bad ∧ Below w.heap.size w w' := by
  obtain ⟨f, hf⟩ := csum_fun .add (.inl rfl) 28 x.1 x.2 y.1 y.2
  obtain ⟨x1, x2⟩ := x
  obtain ⟨y1, y2⟩ := y
  have has := Lib.hid (fun (w : World) (g : Nat) (c0 : w.cell? ⟨g, 0, none⟩ = some (.complex .f64 x1 x2)) (c1 : w.cell? ⟨g, 1, none⟩ = some (.complex .f64 y1 y2)) => asked2 (x1, x2) (y1, y2) w g c0 c1 lx ly)
  have hta := Lib.hid (fun v w => told_arg v w)
  replace hno := Lib.hid hno
  clear lx ly
  unfold errArg at hta
  go_enter Tryd.func20, Tryd.ntmps20
  go_wp2_with (fail)
  obtain ⟨u, hu⟩ : ∃ u, w.drewN (f w).2.2 = u := ⟨_, rfl⟩
  have hsz : u.heap.size = w.heap.size := by rw [← hu]; rfl
  have hBu : Below w.heap.size w u := by rw [← hu]; exact ⟨rfl, rfl, rfl, Nat.le_refl _, fun _ _ => rfl⟩
  have hB := hBu.alloc hBu.size (.cells #[.complex .f64 x1 x2, .complex .f64 y1 y2] 28)
  have hK := Bk.fresh u 28 #[.complex .f64 x1 x2, .complex .f64 y1 y2]
  rw [hsz] at hK
  rw [hu]
  obtain ⟨X, hX⟩ : ∃ X, u.alloc (.cells #[.complex .f64 x1 x2, .complex .f64 y1 y2] 28) = X := ⟨_, rfl⟩
  rw [hX] at hB hK ⊢
  refine (has.out X _ (hK.cell 0) (hK.cell 1)).mono ?_
  rintro e w1 ⟨v, rfl, hv, n, hn_⟩
  have hn_ := hn_.symm
  subst hn_
  obtain rfl : v = errArg := by
    rcases hv with h | h
    · exact absurd ⟨h.1, h.2.1⟩ hno.out
    · exact h.2
  clear hv
  have hB2 : Below w.heap.size w (X.drewN n) := hB.trans ⟨rfl, rfl, rfl, Nat.le_refl _, fun _ _ => rfl⟩
  clear hB hK hBu hsz hu
  unfold errArg
  go_wp2_with (fail)
  refine (hta.out _ _).mono ?_
  rintro e w2 ⟨rfl, hw_⟩
  have hw_ := hw_.symm
  subst hw_
  go_wp2_with (fail)
  go_returns
  exact ⟨rfl, hB2⟩
set_option maxRecDepth 100000 in
theorem sub_ok (x y : Nat × Nat) (a b : Int × Int) (hx : Nm x a) (hy : Nm y b) (ha : Sm a 16777216) (hb : Sm b 16777216) (w : World) : Calls Tryd.prog 21 #[.complex .f64 x.1 x.2, .complex .f64 y.1 y.2] w fun e w' => e = .returned (res (a.1 - b.1, a.2 - b.2)) ∧ Below w.heap.size w w' := by
  obtain ⟨r, hr, hrun⟩ := nm_sub hx hy (sm_mono ha (by decide)) (sm_mono hb (by decide)) 28
  obtain ⟨x1, x2⟩ := x
  obtain ⟨y1, y2⟩ := y
  have hrx := (nm_rt hx).2 ha
  have hry := (nm_rt hy).2 hb
  have lx := nm_lt hx
  have ly := nm_lt hy
  have ht := fun w => told_nil _ _ _ _ hr.1 hr.2 w
  have has := Lib.hid (fun (w : World) (g : Nat) (c0 : w.cell? ⟨g, 0, none⟩ = some (.complex .f64 x1 x2)) (c1 : w.cell? ⟨g, 1, none⟩ = some (.complex .f64 y1 y2)) => asked2 (x1, x2) (y1, y2) w g c0 c1 lx ly)
  replace ht := Lib.hid ht
  replace hrx := Lib.hid hrx
  replace hry := Lib.hid hry
  clear hx hy ha hb hr lx ly
  go_enter Tryd.func21, Tryd.ntmps21
  go_wp2_with (fail)
  have hB := (Below.refl w.heap.size w).alloc (Nat.le_refl _) (.cells #[.complex .f64 x1 x2, .complex .f64 y1 y2] 28)
  have hK := Bk.fresh w 28 #[.complex .f64 x1 x2, .complex .f64 y1 y2]
  obtain ⟨X, hX⟩ : ∃ X, w.alloc (.cells #[.complex .f64 x1 x2, .complex .f64 y1 y2] 28) = X := ⟨_, rfl⟩
  rw [hX] at hB hK ⊢
  refine (has.out X _ (hK.cell 0) (hK.cell 1)).mono ?_
  rintro e w1 ⟨v, rfl, hv, n, hn_⟩
  have hn_ := hn_.symm
  subst hn_
  obtain rfl : v = .nilIface := by
    rcases hv with h | h
    · exact h.2.2
    · exact absurd ⟨hrx.out, hry.out⟩ h.1
  clear hv
  have hB2 : Below w.heap.size w (X.drewN n) := hB.trans ⟨rfl, rfl, rfl, Nat.le_refl _, fun _ _ => rfl⟩
  go_wp2_with (fail)
  refine (ht.out _).mono ?_
  rintro e w2 ⟨rfl, n2, hn_⟩
  have hB3 : Below w.heap.size w w2 := by rw [hn_]; exact hB2.trans ⟨rfl, rfl, rfl, Nat.le_refl _, fun _ _ => rfl⟩
  clear hn_ hB2 hB hK
  obtain ⟨v, q, hvq⟩ := toldV_form (a.1 - b.1) (a.2 - b.2)
  rw [hvq]
  go_wp2_with (fail)
  go_returns
  refine ⟨?_, hB3⟩
  unfold res
  rw [hvq]
  rfl
set_option maxRecDepth 100000 in
theorem sub_bad (x y : Nat × Nat) (lx : x.1 < 18446744073709551616 ∧ x.2 < 18446744073709551616) (ly : y.1 < 18446744073709551616 ∧ y.2 < 18446744073709551616) (hno : ¬ ((Rt x.1 ∧ Rt x.2) ∧ (Rt y.1 ∧ Rt y.2))) (w : World) : Calls Tryd.prog 21 #[.complex .f64 x.1 x.2, .complex .f64 y.1 y.2] w fun e w' => e = .returned bad ∧ Below w.heap.size w w' := by
  obtain ⟨f, hf⟩ := csum_fun .sub (.inr rfl) 28 x.1 x.2 y.1 y.2
  obtain ⟨x1, x2⟩ := x
  obtain ⟨y1, y2⟩ := y
  have has := Lib.hid (fun (w : World) (g : Nat) (c0 : w.cell? ⟨g, 0, none⟩ = some (.complex .f64 x1 x2)) (c1 : w.cell? ⟨g, 1, none⟩ = some (.complex .f64 y1 y2)) => asked2 (x1, x2) (y1, y2) w g c0 c1 lx ly)
  have hta := Lib.hid (fun v w => told_arg v w)
  replace hno := Lib.hid hno
  clear lx ly
  unfold errArg at hta
  go_enter Tryd.func21, Tryd.ntmps21
  go_wp2_with (fail)
  obtain ⟨u, hu⟩ : ∃ u, w.drewN (f w).2.2 = u := ⟨_, rfl⟩
  have hsz : u.heap.size = w.heap.size := by rw [← hu]; rfl
  have hBu : Below w.heap.size w u := by rw [← hu]; exact ⟨rfl, rfl, rfl, Nat.le_refl _, fun _ _ => rfl⟩
  have hB := hBu.alloc hBu.size (.cells #[.complex .f64 x1 x2, .complex .f64 y1 y2] 28)
  have hK := Bk.fresh u 28 #[.complex .f64 x1 x2, .complex .f64 y1 y2]
  rw [hsz] at hK
  rw [hu]
  obtain ⟨X, hX⟩ : ∃ X, u.alloc (.cells #[.complex .f64 x1 x2, .complex .f64 y1 y2] 28) = X := ⟨_, rfl⟩
  rw [hX] at hB hK ⊢
  refine (has.out X _ (hK.cell 0) (hK.cell 1)).mono ?_
  rintro e w1 ⟨v, rfl, hv, n, hn_⟩
  have hn_ := hn_.symm
  subst hn_
  obtain rfl : v = errArg := by
    rcases hv with h | h
    · exact absurd ⟨h.1, h.2.1⟩ hno.out
    · exact h.2
  clear hv
  have hB2 : Below w.heap.size w (X.drewN n) := hB.trans ⟨rfl, rfl, rfl, Nat.le_refl _, fun _ _ => rfl⟩
  clear hB hK hBu hsz hu
  unfold errArg
  go_wp2_with (fail)
  refine (hta.out _ _).mono ?_
  rintro e w2 ⟨rfl, hw_⟩
  have hw_ := hw_.symm
  subst hw_
  go_wp2_with (fail)
  go_returns
  exact ⟨rfl, hB2⟩
def mulZ (a b : Int × Int) : Int × Int := (a.1 * b.1 - a.2 * b.2, a.1 * b.2 + a.2 * b.1)
set_option maxRecDepth 100000 in
theorem mul_ok (x y : Nat × Nat) (a b : Int × Int) (hx : Nm x a) (hy : Nm y b) (ha : Sm a 16777216) (hb : Sm b 16777216) (w : World) : Calls Tryd.prog 22 #[.complex .f64 x.1 x.2, .complex .f64 y.1 y.2] w fun e w' => e = .returned (res (mulZ a b)) ∧ Below w.heap.size w w' := by
  obtain ⟨r, hr, hrun⟩ := nm_mul hx hy (sm_mono ha (by decide)) (sm_mono hb (by decide)) 28
  unfold mulZ
  obtain ⟨x1, x2⟩ := x
  obtain ⟨y1, y2⟩ := y
  have hrx := (nm_rt hx).2 ha
  have hry := (nm_rt hy).2 hb
  have lx := nm_lt hx
  have ly := nm_lt hy
  have ht := fun w => told_nil _ _ _ _ hr.1 hr.2 w
  have has := Lib.hid (fun (w : World) (g : Nat) (c0 : w.cell? ⟨g, 0, none⟩ = some (.complex .f64 x1 x2)) (c1 : w.cell? ⟨g, 1, none⟩ = some (.complex .f64 y1 y2)) => asked2 (x1, x2) (y1, y2) w g c0 c1 lx ly)
  replace ht := Lib.hid ht
  replace hrx := Lib.hid hrx
  replace hry := Lib.hid hry
  clear hx hy ha hb hr lx ly
  go_enter Tryd.func22, Tryd.ntmps22
  go_wp2_with (fail)
  have hB := (Below.refl w.heap.size w).alloc (Nat.le_refl _) (.cells #[.complex .f64 x1 x2, .complex .f64 y1 y2] 28)
  have hK := Bk.fresh w 28 #[.complex .f64 x1 x2, .complex .f64 y1 y2]
  obtain ⟨X, hX⟩ : ∃ X, w.alloc (.cells #[.complex .f64 x1 x2, .complex .f64 y1 y2] 28) = X := ⟨_, rfl⟩
  rw [hX] at hB hK ⊢
  refine (has.out X _ (hK.cell 0) (hK.cell 1)).mono ?_
  rintro e w1 ⟨v, rfl, hv, n, hn_⟩
  have hn_ := hn_.symm
  subst hn_
  obtain rfl : v = .nilIface := by
    rcases hv with h | h
    · exact h.2.2
    · exact absurd ⟨hrx.out, hry.out⟩ h.1
  clear hv
  have hB2 : Below w.heap.size w (X.drewN n) := hB.trans ⟨rfl, rfl, rfl, Nat.le_refl _, fun _ _ => rfl⟩
  go_wp2_with (fail)
  refine (ht.out _).mono ?_
  rintro e w2 ⟨rfl, n2, hn_⟩
  have hB3 : Below w.heap.size w w2 := by rw [hn_]; exact hB2.trans ⟨rfl, rfl, rfl, Nat.le_refl _, fun _ _ => rfl⟩
  clear hn_ hB2 hB hK
  obtain ⟨v, q, hvq⟩ := toldV_form (a.1 * b.1 - a.2 * b.2) (a.1 * b.2 + a.2 * b.1)
  rw [hvq]
  go_wp2_with (fail)
  go_returns
  refine ⟨?_, hB3⟩
  unfold res
  rw [hvq]
  rfl
set_option maxRecDepth 100000 in
theorem mul_bad (x y : Nat × Nat) (lx : x.1 < 18446744073709551616 ∧ x.2 < 18446744073709551616) (ly : y.1 < 18446744073709551616 ∧ y.2 < 18446744073709551616) (hno : ¬ ((Rt x.1 ∧ Rt x.2) ∧ (Rt y.1 ∧ Rt y.2))) (w : World) : Calls Tryd.prog 22 #[.complex .f64 x.1 x.2, .complex .f64 y.1 y.2] w fun e w' => e = .returned bad ∧ Below w.heap.size w w' := by
  obtain ⟨f, hf⟩ := cmul_fun 28 x.1 x.2 y.1 y.2
  obtain ⟨x1, x2⟩ := x
  obtain ⟨y1, y2⟩ := y
  have has := Lib.hid (fun (w : World) (g : Nat) (c0 : w.cell? ⟨g, 0, none⟩ = some (.complex .f64 x1 x2)) (c1 : w.cell? ⟨g, 1, none⟩ = some (.complex .f64 y1 y2)) => asked2 (x1, x2) (y1, y2) w g c0 c1 lx ly)
  have hta := Lib.hid (fun v w => told_arg v w)
  replace hno := Lib.hid hno
  clear lx ly
  unfold errArg at hta
  go_enter Tryd.func22, Tryd.ntmps22
  go_wp2_with (fail)
  obtain ⟨u, hu⟩ : ∃ u, w.drewN (f w).2.2 = u := ⟨_, rfl⟩
  have hsz : u.heap.size = w.heap.size := by rw [← hu]; rfl
  have hBu : Below w.heap.size w u := by rw [← hu]; exact ⟨rfl, rfl, rfl, Nat.le_refl _, fun _ _ => rfl⟩
  have hB := hBu.alloc hBu.size (.cells #[.complex .f64 x1 x2, .complex .f64 y1 y2] 28)
  have hK := Bk.fresh u 28 #[.complex .f64 x1 x2, .complex .f64 y1 y2]
  rw [hsz] at hK
  rw [hu]
  obtain ⟨X, hX⟩ : ∃ X, u.alloc (.cells #[.complex .f64 x1 x2, .complex .f64 y1 y2] 28) = X := ⟨_, rfl⟩
  rw [hX] at hB hK ⊢
  refine (has.out X _ (hK.cell 0) (hK.cell 1)).mono ?_
  rintro e w1 ⟨v, rfl, hv, n, hn_⟩
  have hn_ := hn_.symm
  subst hn_
  obtain rfl : v = errArg := by
    rcases hv with h | h
    · exact absurd ⟨h.1, h.2.1⟩ hno.out
    · exact h.2
  clear hv
  have hB2 : Below w.heap.size w (X.drewN n) := hB.trans ⟨rfl, rfl, rfl, Nat.le_refl _, fun _ _ => rfl⟩
  clear hB hK hBu hsz hu
  unfold errArg
  go_wp2_with (fail)
  refine (hta.out _ _).mono ?_
  rintro e w2 ⟨rfl, hw_⟩
  have hw_ := hw_.symm
  subst hw_
  go_wp2_with (fail)
  go_returns
  exact ⟨rfl, hB2⟩
end Go.Proofs.YtmmfjonoenmplaaDoor
