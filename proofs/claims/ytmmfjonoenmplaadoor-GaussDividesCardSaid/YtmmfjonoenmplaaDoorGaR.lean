import Derived.Test.YtmmfjonoenmplaaDoorGaQ
namespace Go.Proofs.YtmmfjonoenmplaaDoor
open Go.RowKit Go.Extern.Stop Go.Stop Go.Extern
set_option linter.unusedVariables false
set_option linter.unusedSimpArgs false
/-! the walk of GaussUnits -/
theorem turnK_sm {B : Int} : ∀ (k : Nat) {a : Int × Int}, Sm a B → Sm (turnK k a) B
  | 0, _, h => h
  | k + 1, _, h => turnK_sm k (rot_sm h)
theorem first_sm {a : Int × Int} {B : Int} (h : Sm a B) : Sm (firstZ a) B := by
  obtain ⟨k, e⟩ := first_is a
  rw [e]
  exact turnK_sm k h
theorem gcdF_sm : ∀ (k : Nat) {a b : Int × Int}, Sm a 16777216 → Sm b 16777216 → Sm (gcdF k a b) 16777216
  | 0, _, _, h, _ => h
  | k + 1, a, b, h, h2 => by
    unfold gcdF
    by_cases hb : b = (0, 0)
    · rw [if_pos hb]; exact h
    · rw [if_neg hb]; exact gcdF_sm k h2 (divR_sm hb h2)
theorem gcd_sm {a b : Int × Int} (h : Sm a 16777216) (h2 : Sm b 16777216) : Sm (firstZ (gcdZ a b)) 16777216 := first_sm (gcdF_sm _ h h2)
theorem unit_facts (x y : Int × Int) (hx : Sm x 3000) (hy : Sm y 3000) (n m : Int) : ∃ (t u p c : Value) (k : Int),
    (C2 32 (cw x) (.int .i64 n) t ∧ C2 32 (cw y) (.int .i64 m) u) ∧ (C1 33 (cw x) p ∧ C1 33 t p) ∧
    (C2 16 (cw x) (cw y) c ∧ C2 16 t u c) ∧ (C1 34 (cw x) (.int .i64 k) ∧ C1 34 t (.int .i64 k)) ∧ (Cx p ∧ Cx c) := by
  have X := sm_mono hx (show (3000 : Int) ≤ 16777216 by decide)
  have Y := sm_mono hy (show (3000 : Int) ≤ 16777216 by decide)
  have T := turn_sm X n
  have U := turn_sm Y m
  refine ⟨cw (turnZ x n), cw (turnZ y m), cw (firstZ x), cw (firstZ (gcdZ x y)), normZ x, ⟨turnc x X n, turnc y Y m⟩, ⟨firstc x X, ?_⟩, ⟨gcdc x y X Y, ?_⟩, ⟨normc x X, ?_⟩, cx_cw _ (first_sm X), cx_cw _ (gcd_sm X Y)⟩
  · have h := firstc _ T
    rw [first_turn] at h
    exact h
  · have h := gcdc _ _ T U
    rw [gcd_turned] at h
    exact h
  · have h := normc _ T
    rw [norm_turn] at h
    exact h
set_option maxRecDepth 100000 in
set_option maxHeartbeats 8000000 in
theorem walk_units (a0 a1 b0 b1 n m : Int) (w : World) (hT : Tab w)
    (ha0 : -9223372036854775808 ≤ a0 ∧ a0 ≤ 9223372036854775807) (ha1 : -9223372036854775808 ≤ a1 ∧ a1 ≤ 9223372036854775807)
    (hb0 : -9223372036854775808 ≤ b0 ∧ b0 ≤ 9223372036854775807) (hb1 : -9223372036854775808 ≤ b1 ∧ b1 ≤ 9223372036854775807)
    (hn : -9223372036854775808 ≤ n ∧ n ≤ 9223372036854775807) (hm : -9223372036854775808 ≤ m ∧ m ≤ 9223372036854775807) :
    Calls Tryd.prog 8 #[.agg #[.int .i64 a0, .int .i64 a1], .agg #[.int .i64 b0, .int .i64 b1], .int .i64 n, .int .i64 m] w fun e w' => e = .returned (.bool true) ∧ Below w.heap.size w w' := by
  have hsh := Lib.hid (fun W (h : Tab W) => shown_any W h)
  have hm1 := Lib.hid (fun W => made_any a0 a1 3000 ha0 ha1 (by decide) W)
  have hm2 := Lib.hid (fun W => made_any b0 b1 3000 hb0 hb1 (by decide) W)
  have hP := ((Ps.none w).made a0 a1).made b0 b1
  simp only [World.size_alloc] at hP
  have hT' := Lib.hid (hT.bel hP.1)
  replace hP := Lib.hid hP
  clear ha0 ha1 hb0 hb1 hn hm hT
  go_enter Tryd.func8, Tryd.ntmps8
  go_wp2_with (fail)
  refine (hsh.out _ hT'.out).mono ?_
  rintro e W ⟨rfl, hb_⟩
  replace hP := Lib.hid (hP.out.bel hb_)
  clear hb_ hT' hsh
  obtain ⟨g, hg⟩ : ∃ g, w.heap.size = g := ⟨_, rfl⟩
  rw [hg] at hP ⊢
  have k00 := hP.out.c0 (g := g) (a := a0) (b := a1) (by simp)
  have k01 := hP.out.c1 (g := g) (a := a0) (b := a1) (by simp)
  have k10 := hP.out.c0 (g := g + 1) (a := b0) (b := b1) (by simp)
  have k11 := hP.out.c1 (g := g + 1) (a := b0) (b := b1) (by simp)
  have hB := Lib.hid hP.out.1
  clear hP
  go_wp2_with (fail)
  refine (hm1.out _).mono ?_
  rintro e w_ ⟨⟨x, rfl, hx⟩, hw_⟩
  replace hx := Lib.hid hx
  have hw_ := hw_.symm
  subst hw_
  go_wp2_with (fail)
  refine (hm2.out _).mono ?_
  rintro e w_ ⟨⟨y, rfl, hy⟩, hw_⟩
  replace hy := Lib.hid hy
  have hw_ := hw_.symm
  subst hw_
  go_wp2_with (fail)
  clear k00 k01 k10 k11 hm1 hm2
  obtain ⟨t, u, p, c, k, ⟨f1, f2⟩, ⟨f3, f4⟩, ⟨f5, f6⟩, ⟨f7, f8⟩, ⟨r1, i1, rfl, o1, u1⟩, ⟨r2, i2, rfl, o2, u2⟩⟩ := unit_facts x y hx.out hy.out n m
  unfold C2 at f1 f2 f5 f6
  unfold C1 at f3 f4 f7 f8
  obtain ⟨vx, hvx⟩ : ∃ v, cw x = v := ⟨_, rfl⟩
  obtain ⟨vy, hvy⟩ : ∃ v, cw y = v := ⟨_, rfl⟩
  rw [hvx] at f1 f3 f5 f7
  rw [hvy] at f2 f5
  rw [hvx]
  try rw [hvy]
  replace f1 := Lib.hid f1
  replace f2 := Lib.hid f2
  replace f3 := Lib.hid f3
  replace f4 := Lib.hid f4
  replace f5 := Lib.hid f5
  replace f6 := Lib.hid f6
  replace f7 := Lib.hid f7
  replace f8 := Lib.hid f8
  clear hvx hvy hx hy
  refine (f1.out _).mono ?_
  rintro e w_ ⟨rfl, hb_⟩
  replace hB := Lib.hid (hB.out.trans (hb_.mono hB.out.size))
  clear hb_
  go_wp2_with (fail)
  refine (f2.out _).mono ?_
  rintro e w_ ⟨rfl, hb_⟩
  replace hB := Lib.hid (hB.out.trans (hb_.mono hB.out.size))
  clear hb_
  go_wp2_with (fail)
  refine (f3.out _).mono ?_
  rintro e w_ ⟨rfl, hb_⟩
  replace hB := Lib.hid (hB.out.trans (hb_.mono hB.out.size))
  clear hb_
  go_wp2_with (fail)
  refine (f4.out _).mono ?_
  rintro e w_ ⟨rfl, hb_⟩
  replace hB := Lib.hid (hB.out.trans (hb_.mono hB.out.size))
  clear hb_
  go_wp2_with (fail)
  refine (f5.out _).mono ?_
  rintro e w_ ⟨rfl, hb_⟩
  replace hB := Lib.hid (hB.out.trans (hb_.mono hB.out.size))
  clear hb_
  go_wp2_with (fail)
  refine (f6.out _).mono ?_
  rintro e w_ ⟨rfl, hb_⟩
  replace hB := Lib.hid (hB.out.trans (hb_.mono hB.out.size))
  clear hb_
  go_wp2_with (fail)
  refine (f7.out _).mono ?_
  rintro e w_ ⟨rfl, hb_⟩
  replace hB := Lib.hid (hB.out.trans (hb_.mono hB.out.size))
  clear hb_
  go_wp2_with (fail)
  refine (f8.out _).mono ?_
  rintro e w_ ⟨rfl, hb_⟩
  replace hB := Lib.hid (hB.out.trans (hb_.mono hB.out.size))
  clear hb_
  go_wp2_with (fail)
  go_returns
  exact ⟨rfl, hB.out⟩
end Go.Proofs.YtmmfjonoenmplaaDoor
