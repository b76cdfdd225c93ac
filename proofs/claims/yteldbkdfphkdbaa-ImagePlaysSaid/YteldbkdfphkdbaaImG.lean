import Derived.Test.YteldbkdfphkdbaaImF
import Derived.Test.YteldbkdfphkdbaaPick
namespace Go.Proofs.Yteldbkdfphkdbaa
open Go.RowKit
set_option linter.unusedVariables false
set_option linter.unusedSimpArgs false
def layOf (a b c d e : Int) : Lay := ⟨16384 + 8 * pickN a 40, 8 * pickN b 20, 256 + 8 * pickN c 20, 64 + 8 * pickN d 9, 64 + 8 * pickN e 9⟩
theorem layOf_ok (a b c d e : Int) : (layOf a b c d e).ok := by
  have h1 := pickN_lt a 40 (by decide)
  have h2 := pickN_lt b 20 (by decide)
  have h3 := pickN_lt c 20 (by decide)
  have h4 := pickN_lt d 9 (by decide)
  have h5 := pickN_lt e 9 (by decide)
  unfold Lay.ok layOf
  simp only
  omega
def LV (L : Lay) : Value := layV L.k L.s L.u L.d L.r
def inI (x : Int) : Prop := -9223372036854775808 ≤ x ∧ x ≤ 9223372036854775807
set_option maxRecDepth 100000 in
set_option maxHeartbeats 4000000 in
theorem layout_any (a b c d e : Int) (w : World) (ha : inI a) (hb : inI b) (hc : inI c) (hd : inI d) (he : inI e) :
    Calls Try.prog 37 #[.agg #[.int .i64 a, .int .i64 b, .int .i64 c, .int .i64 d, .int .i64 e]] w fun e' w' => e' = .returned (LV (layOf a b c d e)) ∧ Below w.heap.size w w' := by
  have q1 := fun W => pick_any a 40 W ha.1 ha.2 (by decide) (by decide)
  have q2 := fun W => pick_any b 20 W hb.1 hb.2 (by decide) (by decide)
  have q3 := fun W => pick_any c 20 W hc.1 hc.2 (by decide) (by decide)
  have q4 := fun W => pick_any d 9 W hd.1 hd.2 (by decide) (by decide)
  have q5 := fun W => pick_any e 9 W he.1 he.2 (by decide) (by decide)
  have h1 := pickN_lt a 40 (by decide)
  have h2 := pickN_lt b 20 (by decide)
  have h3 := pickN_lt c 20 (by decide)
  have h4 := pickN_lt d 9 (by decide)
  have h5 := pickN_lt e 9 (by decide)
  have hL : LV (layOf a b c d e) = .agg #[.int .i64 ((16384 + 8 * pickN a 40 : Nat) : Int), .int .i64 ((8 * pickN b 20 : Nat) : Int), .int .i64 ((256 + 8 * pickN c 20 : Nat) : Int), .int .i64 ((64 + 8 * pickN d 9 : Nat) : Int), .int .i64 ((64 + 8 * pickN e 9 : Nat) : Int)] := rfl
  rw [hL]
  clear hL ha hb hc hd he
  simp only [show (40 : Int).toNat = 40 from rfl, show (20 : Int).toNat = 20 from rfl, show (9 : Int).toNat = 9 from rfl] at q1 q2 q3 q4 q5
  generalize pickN a 40 = x1 at *
  generalize pickN b 20 = x2 at *
  generalize pickN c 20 = x3 at *
  generalize pickN d 9 = x4 at *
  generalize pickN e 9 = x5 at *
  have e1 : IntKind.i64.wrap (8 * (x1 : Int)) = ((8 * x1 : Nat) : Int) := by rw [IntKind.wrap_i64]; omega
  have e1' : IntKind.i64.wrap (16384 + ((8 * x1 : Nat) : Int)) = ((16384 + 8 * x1 : Nat) : Int) := by rw [IntKind.wrap_i64]; omega
  have e2 : IntKind.i64.wrap (8 * (x2 : Int)) = ((8 * x2 : Nat) : Int) := by rw [IntKind.wrap_i64]; omega
  have e3 : IntKind.i64.wrap (8 * (x3 : Int)) = ((8 * x3 : Nat) : Int) := by rw [IntKind.wrap_i64]; omega
  have e3' : IntKind.i64.wrap (256 + ((8 * x3 : Nat) : Int)) = ((256 + 8 * x3 : Nat) : Int) := by rw [IntKind.wrap_i64]; omega
  have e4 : IntKind.i64.wrap (8 * (x4 : Int)) = ((8 * x4 : Nat) : Int) := by rw [IntKind.wrap_i64]; omega
  have e4' : IntKind.i64.wrap (64 + ((8 * x4 : Nat) : Int)) = ((64 + 8 * x4 : Nat) : Int) := by rw [IntKind.wrap_i64]; omega
  have e5 : IntKind.i64.wrap (8 * (x5 : Int)) = ((8 * x5 : Nat) : Int) := by rw [IntKind.wrap_i64]; omega
  have e5' : IntKind.i64.wrap (64 + ((8 * x5 : Nat) : Int)) = ((64 + 8 * x5 : Nat) : Int) := by rw [IntKind.wrap_i64]; omega
  obtain ⟨y1, hy1⟩ : ∃ y, 8 * x1 = y := ⟨_, rfl⟩
  obtain ⟨y2, hy2⟩ : ∃ y, 8 * x2 = y := ⟨_, rfl⟩
  obtain ⟨y3, hy3⟩ : ∃ y, 8 * x3 = y := ⟨_, rfl⟩
  obtain ⟨y4, hy4⟩ : ∃ y, 8 * x4 = y := ⟨_, rfl⟩
  obtain ⟨y5, hy5⟩ : ∃ y, 8 * x5 = y := ⟨_, rfl⟩
  rw [hy1] at e1 e1' ⊢
  rw [hy2] at e2 ⊢
  rw [hy3] at e3 e3' ⊢
  rw [hy4] at e4 e4' ⊢
  rw [hy5] at e5 e5' ⊢
  clear hy1 hy2 hy3 hy4 hy5 h1 h2 h3 h4 h5
  obtain ⟨z1, hz1⟩ : ∃ z, 16384 + y1 = z := ⟨_, rfl⟩
  obtain ⟨z3, hz3⟩ : ∃ z, 256 + y3 = z := ⟨_, rfl⟩
  obtain ⟨z4, hz4⟩ : ∃ z, 64 + y4 = z := ⟨_, rfl⟩
  obtain ⟨z5, hz5⟩ : ∃ z, 64 + y5 = z := ⟨_, rfl⟩
  rw [hz1] at e1' ⊢
  rw [hz3] at e3' ⊢
  rw [hz4] at e4' ⊢
  rw [hz5] at e5' ⊢
  clear hz1 hz3 hz4 hz5
  replace q1 := Lib.hid q1
  replace q2 := Lib.hid q2
  replace q3 := Lib.hid q3
  replace q4 := Lib.hid q4
  replace q5 := Lib.hid q5
  go_enter Try.func37, Try.ntmps37
  go_wp2_with (fail)
  have hK := (Bk.fresh w 39 #[.int .i64 a, .int .i64 b, .int .i64 c, .int .i64 d, .int .i64 e]).past (.cells #[.int .i64 0, .int .i64 0, .int .i64 0, .int .i64 0, .int .i64 0] 23)
  have hR := Bk.fresh (w.alloc (.cells #[.int .i64 a, .int .i64 b, .int .i64 c, .int .i64 d, .int .i64 e] 39)) 23 #[.int .i64 0, .int .i64 0, .int .i64 0, .int .i64 0, .int .i64 0]
  have hB := ((Below.refl w.heap.size w).alloc (Nat.le_refl _) (.cells #[.int .i64 a, .int .i64 b, .int .i64 c, .int .i64 d, .int .i64 e] 39)).alloc (by simp) (.cells #[.int .i64 0, .int .i64 0, .int .i64 0, .int .i64 0, .int .i64 0] 23)
  simp only [World.size_alloc] at hR
  obtain ⟨V, hV⟩ : ∃ V, (w.alloc (.cells #[.int .i64 a, .int .i64 b, .int .i64 c, .int .i64 d, .int .i64 e] 39)).alloc (.cells #[.int .i64 0, .int .i64 0, .int .i64 0, .int .i64 0, .int .i64 0] 23) = V := ⟨_, rfl⟩
  rw [hV] at hK hR hB ⊢
  clear hV
  have c0 := hK.cell 0
  have c1 := hK.cell 1
  have c2 := hK.cell 2
  have c3 := hK.cell 3
  have c4 := hK.cell 4
  simp at c0 c1 c2 c3 c4
  replace hK := Lib.hid hK
  replace hR := Lib.hid hR
  go_still_tail 25, (by kernel_rfl)
  still_call (q1.out _)
  repeat still_step
  still_call (q2.out _)
  repeat still_step
  still_call (q3.out _)
  repeat still_step
  still_call (q4.out _)
  repeat still_step
  still_call (q5.out _)
  repeat still_step
  refine wpStill_nil ?_
  change wpList _ _ _ _ _ V.drew
  replace hR := hR.out.draw
  replace hB := hB.drew
  obtain ⟨U, hU⟩ : ∃ U, V.drew = U := ⟨_, rfl⟩
  rw [hU] at hR hB ⊢
  clear hU c0 c1 c2 c3 c4
  obtain ⟨q, hq⟩ : ∃ q, w.heap.size + 1 = q := ⟨_, rfl⟩
  have hqb : w.heap.size ≤ q := by omega
  rw [hq] at hR ⊢
  clear hq
  have c0 := hR.cell 0
  have c1 := hR.cell 1
  have c2 := hR.cell 2
  have c3 := hR.cell 3
  have c4 := hR.cell 4
  have f0 := hR.free 0
  have f1 := hR.free 1
  have f2 := hR.free 2
  have f3 := hR.free 3
  have f4 := hR.free 4
  simp at c0 c1 c2 c3 c4
  replace hR := Lib.hid hR
  go_wp2_with (fail)
  have hR3 := (((((hR.out.put 0 (.int .i64 (z1 : Int))).put 1 (.int .i64 (y2 : Int))).put 2 (.int .i64 (z3 : Int))).put 3 (.int .i64 (z4 : Int))).put 4 (.int .i64 (z5 : Int)))
  have hB3 := (((((hB.setCell (p := ⟨q, 0, none⟩) hqb (.int .i64 (z1 : Int))).setCell (p := ⟨q, 1, none⟩) hqb (.int .i64 (y2 : Int))).setCell (p := ⟨q, 2, none⟩) hqb (.int .i64 (z3 : Int))).setCell (p := ⟨q, 3, none⟩) hqb (.int .i64 (z4 : Int))).setCell (p := ⟨q, 4, none⟩) hqb (.int .i64 (z5 : Int)))
  obtain ⟨w9, hw9⟩ : ∃ w9, (((((U.setCell ⟨q, 0, none⟩ (.int .i64 (z1 : Int))).setCell ⟨q, 1, none⟩ (.int .i64 (y2 : Int))).setCell ⟨q, 2, none⟩ (.int .i64 (z3 : Int))).setCell ⟨q, 3, none⟩ (.int .i64 (z4 : Int))).setCell ⟨q, 4, none⟩ (.int .i64 (z5 : Int))) = w9 := ⟨_, rfl⟩
  rw [hw9] at hR3 hB3 ⊢
  have r0 : w9.cell? ⟨q, 0, none⟩ = some (.int .i64 (z1 : Int)) := hR3.cell 0
  have r1 : w9.cell? ⟨q, 1, none⟩ = some (.int .i64 (y2 : Int)) := hR3.cell 1
  have r2 : w9.cell? ⟨q, 2, none⟩ = some (.int .i64 (z3 : Int)) := hR3.cell 2
  have r3 : w9.cell? ⟨q, 3, none⟩ = some (.int .i64 (z4 : Int)) := hR3.cell 3
  have r4 : w9.cell? ⟨q, 4, none⟩ = some (.int .i64 (z5 : Int)) := hR3.cell 4
  refine bodyPost_ret (by simp [results, Try.results37, go_sem, r0, r1, r2, r3, r4]; rfl) rfl ?_
  exact ⟨rfl, hB3⟩
end Go.Proofs.Yteldbkdfphkdbaa
