import Derived.Test.YtmmfjonoenmplaaDoorGaO
namespace Go.Proofs.YtmmfjonoenmplaaDoor
open Go.RowKit Go.Extern.Stop Go.Stop Go.Extern
set_option linter.unusedVariables false
set_option linter.unusedSimpArgs false
/-! the walk of GaussRing -/
/-- blocks of two ints that stay, and that nothing old has turned -/
def Ps (w W : World) (l : List (Nat × (Int × Int))) : Prop := Below w.heap.size w W ∧ ∀ x ∈ l, Bk W x.1 54 #[.int .i64 x.2.1, .int .i64 x.2.2]
section
variable {w W W' : World} {l : List (Nat × (Int × Int))}
theorem Ps.bel (h : Ps w W l) (hb : Below W.heap.size W W') : Ps w W' l := ⟨h.1.trans (hb.mono h.1.size), fun x hx => (h.2 x hx).kept hb (h.2 x hx).lt⟩
theorem Ps.made (h : Ps w W l) (a b : Int) : Ps w (W.alloc (.cells #[.int .i64 a, .int .i64 b] 54)) ((W.heap.size, (a, b)) :: l) :=
  ⟨h.1.alloc h.1.size _, fun x hx => by
    rcases List.mem_cons.1 hx with rfl | hx
    · exact Bk.fresh W _ _
    · exact (h.2 x hx).past _⟩
theorem Ps.c0 (h : Ps w W l) {g : Nat} {a b : Int} (hm : (g, (a, b)) ∈ l) : W.cell? ⟨g, 0, none⟩ = some (.int .i64 a) := (h.2 _ hm).cell 0
theorem Ps.c1 (h : Ps w W l) {g : Nat} {a b : Int} (hm : (g, (a, b)) ∈ l) : W.cell? ⟨g, 1, none⟩ = some (.int .i64 b) := (h.2 _ hm).cell 1
theorem Ps.none (w : World) : Ps w w [] := ⟨Below.refl _ w, fun x hx => by cases hx⟩
end
theorem mulZ_sm {a b : Int × Int} {A B : Int} (ha : Sm a A) (hb : Sm b B) : Sm (mulZ a b) (2 * (A * B)) := by
  obtain ⟨q1, q2, q3, q4⟩ := ha
  obtain ⟨b1', b2', b3', b4'⟩ := hb
  have p1 := prod_le q1 q2 b1' b2'
  have p2 := prod_le q3 q4 b3' b4'
  have p3 := prod_le q1 q2 b3' b4'
  have p4 := prod_le q3 q4 b1' b2'
  unfold Sm mulZ
  simp only at *
  omega
theorem mulZ_comm (a b : Int × Int) : mulZ a b = mulZ b a := by unfold mulZ; ext <;> simp only <;> grind
theorem mulZ_assoc (a b c : Int × Int) : mulZ (mulZ a b) c = mulZ a (mulZ b c) := by unfold mulZ; ext <;> simp only <;> grind
theorem mulZ_add (a b c : Int × Int) : mulZ a (b.1 + c.1, b.2 + c.2) = ((mulZ a b).1 + (mulZ a c).1, (mulZ a b).2 + (mulZ a c).2) := by unfold mulZ; ext <;> simp only <;> grind
theorem normZ_mul (a b : Int × Int) : normZ (mulZ a b) = normZ a * normZ b := by unfold mulZ normZ; simp only; grind
theorem conj_mul (a b : Int × Int) : mulZ (a.1, -a.2) (b.1, -b.2) = ((mulZ a b).1, -(mulZ a b).2) := by unfold mulZ; ext <;> simp only <;> grind
theorem turnK_turnK (j k : Nat) (a : Int × Int) : turnK j (turnK k a) = turnK (k + j) a := by
  induction k generalizing a with
  | zero => simp [turnK]
  | succ k ih => rw [show k + 1 + j = (k + j) + 1 by omega]; simp only [turnK]; exact ih _
theorem turnK_4 (a : Int × Int) : turnK 4 a = a := by simp [turnK, rotZ]
theorem turn_back (a : Int × Int) (n : Int) : turnZ (turnZ a n) (-n) = a := by
  unfold turnZ
  rw [turnK_turnK]
  rcases (by omega : (n % 4).toNat + (-n % 4).toNat = 0 ∨ (n % 4).toNat + (-n % 4).toNat = 4) with h | h
  · rw [h]; rfl
  · rw [h]; exact turnK_4 a
theorem turn_full (a : Int × Int) (n : Int) : turnZ a (4 * n) = a := by
  unfold turnZ
  rw [show (4 * n % 4) = 0 by omega]
  rfl
theorem turn_sm {a : Int × Int} {B : Int} (h : Sm a B) (n : Int) : Sm (turnZ a n) B := by
  unfold Sm at *
  rcases turn_form a n with ⟨_, h⟩ | ⟨_, h⟩ | ⟨_, h⟩ | ⟨_, h⟩
  all_goals (rw [h]; simp only; omega)
theorem normZ_le {a : Int × Int} {B : Int} (h : Sm a B) : 0 ≤ normZ a ∧ normZ a ≤ 2 * (B * B) := by
  obtain ⟨h1, h2, h3, h4⟩ := h
  have p1 := prod_le h1 h2 h1 h2
  have p2 := prod_le h3 h4 h3 h4
  have s1 : 0 ≤ a.1 * a.1 := by rcases Int.le_total 0 a.1 with h | h; exact Int.mul_nonneg h h; exact Int.mul_nonneg_of_nonpos_of_nonpos h h
  have s2 : 0 ≤ a.2 * a.2 := by rcases Int.le_total 0 a.2 with h | h; exact Int.mul_nonneg h h; exact Int.mul_nonneg_of_nonpos_of_nonpos h h
  unfold normZ
  omega
/-- on these values the function answers so, and OK -/
def C2 (f : Nat) (a b r : Value) : Prop := ∀ w, Calls Tryd.prog f #[a, b] w fun e w' => e = .returned (.tuple #[r, .int .i64 0]) ∧ Below w.heap.size w w'
def C1 (f : Nat) (a r : Value) : Prop := ∀ w, Calls Tryd.prog f #[a] w fun e w' => e = .returned (.tuple #[r, .int .i64 0]) ∧ Below w.heap.size w w'
/-- a number that equals itself -/
def Cx (v : Value) : Prop := ∃ a b, v = .complex .f64 a b ∧ (FloatKind.f64.format.order a a == some .eq) = true ∧ (FloatKind.f64.format.order b b == some .eq) = true
theorem cx_cw (a : Int × Int) (ha : Sm a 16777216) : Cx (cw a) := by
  unfold Sm at ha
  exact ⟨_, _, rfl, fi_self a.1 (by omega), fi_self a.2 (by omega)⟩
theorem ring_facts (x y z : Int × Int) (hx : Sm x 100) (hy : Sm y 100) (hz : Sm z 100) (n : Int) : ∃ (vxy vyz vl vs vd vxz vu vv vw vk : Value) (p q : Int),
    (C2 22 (cw x) (cw y) vxy ∧ C2 22 (cw y) (cw x) vxy ∧ C2 22 (cw y) (cw z) vyz) ∧
    (C2 22 vxy (cw z) vl ∧ C2 22 (cw x) vyz vl ∧ C2 20 (cw y) (cw z) vs) ∧
    (C2 22 (cw x) vs vd ∧ C2 22 (cw x) (cw z) vxz ∧ C2 20 vxy vxz vd) ∧
    (C1 34 (cw x) (.int .i64 p) ∧ C1 34 (cw y) (.int .i64 q) ∧ C1 34 vxy (.int .i64 (p * q))) ∧
    (C1 31 (cw x) vu ∧ C1 31 (cw y) vv ∧ C1 31 vxy vw ∧ C2 22 vu vv vw) ∧
    (C2 32 (cw x) (.int .i64 n) vk ∧ C2 32 vk (.int .i64 (-n)) (cw x) ∧ C2 32 (cw x) (.int .i64 (4 * n)) (cw x)) ∧
    (Cx vxy ∧ Cx vl ∧ Cx vd ∧ Cx vw ∧ Cx (cw x)) ∧ (0 ≤ p * q ∧ p * q ≤ 4611686018427387904) := by
  have sxy := mulZ_sm hx hy
  have syz := mulZ_sm hy hz
  have sl := mulZ_sm sxy hz
  have sr := mulZ_sm hx syz
  have sxz := mulZ_sm hx hz
  have ss : Sm (y.1 + z.1, y.2 + z.2) 200 := by unfold Sm at *; simp only; omega
  have sd := mulZ_sm hx ss
  have su : Sm (x.1, -x.2) 100 := by unfold Sm at *; simp only; omega
  have sv : Sm (y.1, -y.2) 100 := by unfold Sm at *; simp only; omega
  have sw := mulZ_sm su sv
  have nx := normZ_le sxy
  have m : ∀ {a : Int × Int} {B : Int}, Sm a B → B ≤ 16777216 → Sm a 16777216 := fun h h2 => sm_mono h h2
  have X := m hx (by decide)
  have Y := m hy (by decide)
  have Z := m hz (by decide)
  have XY := m sxy (by decide)
  have YZ := m syz (by decide)
  have L := m sl (by decide)
  have R := m sr (by decide)
  have XZ := m sxz (by decide)
  have S := m ss (by decide)
  have D := m sd (by decide)
  have U := m su (by decide)
  have V := m sv (by decide)
  have Wd := m sw (by decide)
  have K := turn_sm X n
  refine ⟨cw (mulZ x y), cw (mulZ y z), cw (mulZ (mulZ x y) z), cw (y.1 + z.1, y.2 + z.2), cw (mulZ x (y.1 + z.1, y.2 + z.2)), cw (mulZ x z), cw (x.1, -x.2), cw (y.1, -y.2), cw (mulZ (x.1, -x.2) (y.1, -y.2)), cw (turnZ x n), normZ x, normZ y, ⟨mulc x y X Y XY, ?_, mulc y z Y Z YZ⟩, ⟨mulc _ _ XY Z L, ?_, addc y z Y Z S⟩, ⟨mulc _ _ X S D, mulc _ _ X Z XZ, ?_⟩, ⟨normc x X, normc y Y, ?_⟩, ⟨conjc x X, conjc y Y, ?_, mulc _ _ U V Wd⟩, ⟨turnc x X n, ?_, ?_⟩, ⟨cx_cw _ XY, cx_cw _ L, cx_cw _ D, cx_cw _ Wd, cx_cw _ X⟩, ?_⟩
  · rw [mulZ_comm]; exact mulc y x Y X (by rw [mulZ_comm]; exact XY)
  · rw [mulZ_assoc]; exact mulc _ _ X YZ R
  · rw [mulZ_add]; exact addc _ _ XY XZ (by rw [← mulZ_add]; exact D)
  · rw [← normZ_mul]; exact normc _ XY
  · rw [conj_mul]; exact conjc _ XY
  · have h := turnc _ K (-n)
    rw [turn_back] at h
    exact h
  · have h := turnc x X (4 * n)
    rw [turn_full] at h
    exact h
  · rw [← normZ_mul]; omega
set_option maxRecDepth 100000 in
set_option maxHeartbeats 8000000 in
theorem walk_ring (a0 a1 b0 b1 c0 c1 n : Int) (w : World) (hT : Tab w)
    (ha0 : -9223372036854775808 ≤ a0 ∧ a0 ≤ 9223372036854775807) (ha1 : -9223372036854775808 ≤ a1 ∧ a1 ≤ 9223372036854775807)
    (hb0 : -9223372036854775808 ≤ b0 ∧ b0 ≤ 9223372036854775807) (hb1 : -9223372036854775808 ≤ b1 ∧ b1 ≤ 9223372036854775807)
    (hc0 : -9223372036854775808 ≤ c0 ∧ c0 ≤ 9223372036854775807) (hc1 : -9223372036854775808 ≤ c1 ∧ c1 ≤ 9223372036854775807)
    (hn : -9223372036854775808 ≤ n ∧ n ≤ 9223372036854775807) :
    Calls Tryd.prog 10 #[.agg #[.int .i64 a0, .int .i64 a1], .agg #[.int .i64 b0, .int .i64 b1], .agg #[.int .i64 c0, .int .i64 c1], .int .i64 n] w fun e w' => e = .returned (.bool true) ∧ Below w.heap.size w w' := by
  have hsh := Lib.hid (fun W (h : Tab W) => shown_any W h)
  have hm1 := Lib.hid (fun W => made_any a0 a1 100 ha0 ha1 (by decide) W)
  have hm2 := Lib.hid (fun W => made_any b0 b1 100 hb0 hb1 (by decide) W)
  have hm3 := Lib.hid (fun W => made_any c0 c1 100 hc0 hc1 (by decide) W)
  have hpk := Lib.hid (fun W => pick_any n 1000 W hn.1 hn.2 (by decide) (by decide))
  have hkl := pickN_lt n 1000 (by decide)
  obtain ⟨k, hk⟩ : ∃ k : Nat, pickN n (1000 : Int).toNat = k := ⟨_, rfl⟩
  have hk' : pickN n 1000 = k := hk
  rw [hk] at hpk
  rw [hk'] at hkl
  have w1 : IntKind.i64.wrap (-(k : Int)) = -(k : Int) := by rw [IntKind.wrap_i64]; omega
  have w2 : IntKind.i64.wrap (4 * (k : Int)) = 4 * (k : Int) := by rw [IntKind.wrap_i64]; omega
  have hP := ((Ps.none w).made a0 a1).made b0 b1 |>.made c0 c1
  simp only [World.size_alloc] at hP
  have hT' := Lib.hid (hT.bel hP.1)
  replace hP := Lib.hid hP
  clear ha0 ha1 hb0 hb1 hc0 hc1 hn hk hk' hkl hT
  go_enter Tryd.func10, Tryd.ntmps10
  go_wp2_with (fail)
  refine (hsh.out _ hT'.out).mono ?_
  rintro e W ⟨rfl, hb_⟩
  replace hP := Lib.hid (hP.out.bel hb_)
  clear hb_ hT' hsh
  obtain ⟨g, hg⟩ : ∃ g, w.heap.size = g := ⟨_, rfl⟩
  rw [hg] at hP ⊢
  have k00 := hP.out.c0 (g := g) (a := a0) (b := a1) (by simp)
  have k01 := hP.out.c1 (g := g) (a := a0) (b := a1) (by simp)
  have k10 := hP.out.c0 (g := g + 1) (a := b0) (b := b1) (by simp)
  have k11 := hP.out.c1 (g := g + 1) (a := b0) (b := b1) (by simp)
  have k20 := hP.out.c0 (g := g + 1 + 1) (a := c0) (b := c1) (by simp)
  have k21 := hP.out.c1 (g := g + 1 + 1) (a := c0) (b := c1) (by simp)
  have hB := Lib.hid hP.out.1
  clear hP
  go_wp2_with (fail)
  refine (hm1.out _).mono ?_
  rintro e w_ ⟨⟨x, rfl, hx⟩, hw_⟩
  replace hx := Lib.hid hx
  have hw_ := hw_.symm
  subst hw_
  go_wp2_with (fail)
  refine (hm2.out _).mono ?_
  rintro e w_ ⟨⟨y, rfl, hy⟩, hw_⟩
  replace hy := Lib.hid hy
  have hw_ := hw_.symm
  subst hw_
  go_wp2_with (fail)
  refine (hm3.out _).mono ?_
  rintro e w_ ⟨⟨z, rfl, hz⟩, hw_⟩
  replace hz := Lib.hid hz
  have hw_ := hw_.symm
  subst hw_
  go_wp2_with (fail)
  clear k00 k01 k10 k11 k20 k21 hm1 hm2 hm3
  obtain ⟨vxy, vyz, vl, vs, vd, vxz, vu, vv, vw, vk, p, q, ⟨f1, f2, f3⟩, ⟨f4, f5, f6⟩, ⟨f7, f8, f9⟩, ⟨f10, f11, f12⟩, ⟨f13, f14, f15, f16⟩, ⟨f17, f18, f19⟩, ⟨e1, e2, e3, e4, e5⟩, hpq⟩ := ring_facts x y z hx.out hy.out hz.out k
  have w3 : IntKind.i64.wrap (p * q) = p * q := by rw [IntKind.wrap_i64]; omega
  obtain ⟨r1, i1, rfl, o1, u1⟩ := e1
  obtain ⟨r2, i2, rfl, o2, u2⟩ := e2
  obtain ⟨r3, i3, rfl, o3, u3⟩ := e3
  obtain ⟨r4, i4, rfl, o4, u4⟩ := e4
  unfold C2 at f1 f2 f3 f4 f5 f6 f7 f8 f9 f16 f17 f18 f19
  unfold C1 at f10 f11 f12 f13 f14 f15
  obtain ⟨vx, hvx⟩ : ∃ v, cw x = v := ⟨_, rfl⟩
  obtain ⟨vy, hvy⟩ : ∃ v, cw y = v := ⟨_, rfl⟩
  obtain ⟨vz, hvz⟩ : ∃ v, cw z = v := ⟨_, rfl⟩
  rw [hvx] at f1 f2 f5 f7 f8 f10 f13 f17 f18 f19 e5
  obtain ⟨r5, i5, rfl, o5, u5⟩ := e5
  rw [hvy] at f1 f2 f3 f6 f11 f14
  rw [hvz] at f3 f4 f6 f8
  rw [hvx, hvy]
  try rw [hvz]
  replace f1 := Lib.hid f1
  replace f2 := Lib.hid f2
  replace f3 := Lib.hid f3
  replace f4 := Lib.hid f4
  replace f5 := Lib.hid f5
  replace f6 := Lib.hid f6
  replace f7 := Lib.hid f7
  replace f8 := Lib.hid f8
  replace f9 := Lib.hid f9
  replace f10 := Lib.hid f10
  replace f11 := Lib.hid f11
  replace f12 := Lib.hid f12
  replace f13 := Lib.hid f13
  replace f14 := Lib.hid f14
  replace f15 := Lib.hid f15
  replace f16 := Lib.hid f16
  replace f17 := Lib.hid f17
  replace f18 := Lib.hid f18
  replace f19 := Lib.hid f19
  clear hvx hvy hvz hx hy hz hpq
  refine (f1.out _).mono ?_
  rintro e w_ ⟨rfl, hb_⟩
  replace hB := Lib.hid (hB.out.trans (hb_.mono hB.out.size))
  clear hb_
  go_wp2_with (fail)
  refine (f2.out _).mono ?_
  rintro e w_ ⟨rfl, hb_⟩
  replace hB := Lib.hid (hB.out.trans (hb_.mono hB.out.size))
  clear hb_
  go_wp2_with (fail)
  refine (f3.out _).mono ?_
  rintro e w_ ⟨rfl, hb_⟩
  replace hB := Lib.hid (hB.out.trans (hb_.mono hB.out.size))
  clear hb_
  go_wp2_with (fail)
  refine (f4.out _).mono ?_
  rintro e w_ ⟨rfl, hb_⟩
  replace hB := Lib.hid (hB.out.trans (hb_.mono hB.out.size))
  clear hb_
  go_wp2_with (fail)
  refine (f5.out _).mono ?_
  rintro e w_ ⟨rfl, hb_⟩
  replace hB := Lib.hid (hB.out.trans (hb_.mono hB.out.size))
  clear hb_
  go_wp2_with (fail)
  refine (f6.out _).mono ?_
  rintro e w_ ⟨rfl, hb_⟩
  replace hB := Lib.hid (hB.out.trans (hb_.mono hB.out.size))
  clear hb_
  go_wp2_with (fail)
  refine (f7.out _).mono ?_
  rintro e w_ ⟨rfl, hb_⟩
  replace hB := Lib.hid (hB.out.trans (hb_.mono hB.out.size))
  clear hb_
  go_wp2_with (fail)
  refine (f8.out _).mono ?_
  rintro e w_ ⟨rfl, hb_⟩
  replace hB := Lib.hid (hB.out.trans (hb_.mono hB.out.size))
  clear hb_
  go_wp2_with (fail)
  refine (f9.out _).mono ?_
  rintro e w_ ⟨rfl, hb_⟩
  replace hB := Lib.hid (hB.out.trans (hb_.mono hB.out.size))
  clear hb_
  go_wp2_with (fail)
  refine (f10.out _).mono ?_
  rintro e w_ ⟨rfl, hb_⟩
  replace hB := Lib.hid (hB.out.trans (hb_.mono hB.out.size))
  clear hb_
  go_wp2_with (fail)
  refine (f11.out _).mono ?_
  rintro e w_ ⟨rfl, hb_⟩
  replace hB := Lib.hid (hB.out.trans (hb_.mono hB.out.size))
  clear hb_
  go_wp2_with (fail)
  refine (f12.out _).mono ?_
  rintro e w_ ⟨rfl, hb_⟩
  replace hB := Lib.hid (hB.out.trans (hb_.mono hB.out.size))
  clear hb_
  go_wp2_with (fail)
  refine (f13.out _).mono ?_
  rintro e w_ ⟨rfl, hb_⟩
  replace hB := Lib.hid (hB.out.trans (hb_.mono hB.out.size))
  clear hb_
  go_wp2_with (fail)
  refine (f14.out _).mono ?_
  rintro e w_ ⟨rfl, hb_⟩
  replace hB := Lib.hid (hB.out.trans (hb_.mono hB.out.size))
  clear hb_
  go_wp2_with (fail)
  refine (f15.out _).mono ?_
  rintro e w_ ⟨rfl, hb_⟩
  replace hB := Lib.hid (hB.out.trans (hb_.mono hB.out.size))
  clear hb_
  go_wp2_with (fail)
  refine (f16.out _).mono ?_
  rintro e w_ ⟨rfl, hb_⟩
  replace hB := Lib.hid (hB.out.trans (hb_.mono hB.out.size))
  clear hb_
  go_wp2_with (fail)
  refine (hpk.out _).mono ?_
  rintro e w_ ⟨rfl, hw_⟩
  have hw_ := hw_.symm
  subst hw_
  go_wp2_with (fail)
  refine (f17.out _).mono ?_
  rintro e w_ ⟨rfl, hb_⟩
  replace hB := Lib.hid (hB.out.trans (hb_.mono hB.out.size))
  clear hb_
  go_wp2_with (fail)
  refine (f18.out _).mono ?_
  rintro e w_ ⟨rfl, hb_⟩
  replace hB := Lib.hid (hB.out.trans (hb_.mono hB.out.size))
  clear hb_
  go_wp2_with (fail)
  refine (f19.out _).mono ?_
  rintro e w_ ⟨rfl, hb_⟩
  replace hB := Lib.hid (hB.out.trans (hb_.mono hB.out.size))
  clear hb_
  go_wp2_with (fail)
  go_returns
  exact ⟨rfl, hB.out⟩
end Go.Proofs.YtmmfjonoenmplaaDoor
