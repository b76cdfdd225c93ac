import Derived.Test.YtoaiiimnfgbcaaaRdE
import Derived.Test.YtoaiiimnfgbcaaaDcE
namespace Go.Proofs.Ytoaiiimnfgbcaaa
open Go.RowKit
attribute [local go_sem] Oper.semAt_some
set_option linter.unusedVariables false
set_option linter.unusedSimpArgs false
/-! chapter 8: the document's head -/
/-- eight bytes, the highest first -/
def unB (B : List UInt8) (a : Nat) : Nat → Nat
  | 0 => 0
  | k + 1 => unB B a k * 256 + (B.getD (a + 7 - k) 0).toNat
theorem unB_lt (B : List UInt8) (a : Nat) : ∀ k, unB B a k < 256 ^ k
  | 0 => by unfold unB; decide
  | k + 1 => by
    have h1 := unB_lt B a k
    have h2 := (B.getD (a + 7 - k) 0).toNat_lt
    unfold unB
    rw [Nat.pow_succ]; omega
theorem unB_7 (B : List UInt8) (a k : Nat) (hk : k < 8) : unB B a k < 72057594037927936 := by
  have h1 := unB_lt B a k
  have h2 : 256 ^ k ≤ 256 ^ 7 := Nat.pow_le_pow_right (by decide) (by omega)
  have h3 : 256 ^ 7 = 72057594037927936 := by decide +kernel
  omega
theorem unB_cel (B : List UInt8) (a : Nat) : IntKind.i64.wrap (unB B a 8 : Int) = cel B a := by
  rw [wrap64_of]
  unfold cel hor
  simp only [unB]
  congr 1
  simp
  omega
theorem r8_or_byte (m c : Nat) (hm : m < 72057594037927936) (hc : c < 256) : bits BinOp.or IntKind.u64 ((m : Int) * 256) (c : Int) = ((m * 256 + c : Nat) : Int) := by
  have e : (m * 256) ||| c = m * 256 + c := by
    have := (Nat.shiftLeft_add_eq_or_of_lt (show c < 2 ^ 8 from hc) m).symm
    rw [Nat.shiftLeft_eq] at this
    exact this
  unfold bits
  rw [IntKind.wrap_u64]
  have h1 : (BitVec.ofInt IntKind.u64.bits ((m : Int) * 256)).toNat = m * 256 := by
    have : ((m : Int) * 256) = ((m * 256 : Nat) : Int) := by simp
    rw [this]; simp [IntKind.bits]; omega
  have h2 : (BitVec.ofInt IntKind.u64.bits (c : Int)).toNat = c := by
    simp [IntKind.bits]; omega
  simp only [BitVec.toNat_or, h1, h2, e]
  omega
section
variable {W W' w : World} {q m g₀ n : Nat} {B : List UInt8} {cl : Bool} {h l : Nat}

set_option maxHeartbeats 1000000 in
theorem rhead_al (D : Rd w q m g₀ n B cl h l) (at_ : Int) (h8 : ¬ at_ % 8 = 0) : Calls Try.prog 56 #[.pointer (some ⟨q, 0, none⟩), .int .i64 at_] w fun e w' => e = .returned (.tuple #[wdV wd0, .int .i64 0, .bool false]) ∧ Below w.heap.size w w' := by
  have z8 : (at_.tmod 8 != 0) = true := by
    have : ¬ at_.tmod 8 = 0 := fun e => h8 ((tm8 at_).1 e)
    simpa using this
  have y8 : (at_ % 8 != 0) = true := by simpa using h8
  have hDx := D.bel ((Below.refl w.heap.size w).alloc (Nat.le_refl _) (.cells (wdC wd0).toArray 34))
  have hBx : Below w.heap.size w (w.alloc (.cells (wdC wd0).toArray 34)) := (Below.refl _ _).alloc (Nat.le_refl _) _
  have r0 := Bk.fresh w 34 (wdC wd0).toArray
  obtain ⟨g, hg⟩ : ∃ g, w.heap.size = g := ⟨_, rfl⟩
  obtain ⟨W, hW⟩ : ∃ W, w.alloc (.cells (wdC wd0).toArray 34) = W := ⟨_, rfl⟩
  rw [hW] at hDx hBx r0
  rw [hg] at r0 hBx
  have hW' : w.alloc (.cells #[.string ⟨#[]⟩, .int .i64 0, .int .i64 0, .bool false, .bool false, .bool false] 34) = W := hW
  have c0 := hDx.c0
  have c1 := hDx.c1
  have hto0 := Lib.hid (rto_any hDx)
  have hto1 := Lib.hid (fun k => rto_any (hDx.draws k))
  have e0 := r0.cell 0
  have e1 := r0.cell 1
  have e2 := r0.cell 2
  have e3 := r0.cell 3
  have e4 := r0.cell 4
  have e5 := r0.cell 5
  simp [wdC, wd0] at e0 e1 e2 e3 e4 e5
  have f0 := r0.free 0
  have f1 := r0.free 1
  have f2 := r0.free 2
  have f3 := r0.free 3
  have f4 := r0.free 4
  have f5 := r0.free 5
  clear D h8
  replace hDx := Lib.hid hDx
  replace r0 := Lib.hid r0
  replace hBx := Lib.hid hBx
  clear hW
  go_enter Try.func56, Try.ntmps56
  go_wp2_with (fail)
  clear c0 c1 e0 e1 e2 e3 e4 e5 f0 f1 f2 f3 f4 f5
  have hZ0 : ∃ Z, set6 W g wd0 = Z := ⟨_, rfl⟩
  obtain ⟨Z, hZ⟩ := hZ0
  have rZ : Bk Z g 34 (wdC wd0).toArray := by rw [← hZ]; exact set6_bk r0.out
  have hBZ : Below g w Z := by rw [← hZ]; exact set6_below hBx.out (Nat.le_refl _)
  unfold set6 at hZ
  first | rw [hZ] | (simp only [wd0, Int.ofNat_zero, Int.natCast_zero] at hZ; rw [hZ])
  clear hZ
  have e0 := rZ.cell 0
  have e1 := rZ.cell 1
  have e2 := rZ.cell 2
  have e3 := rZ.cell 3
  have e4 := rZ.cell 4
  have e5 := rZ.cell 5
  simp [wdC, wd0] at e0 e1 e2 e3 e4 e5
  replace rZ := Lib.hid rZ
  replace hBZ := Lib.hid hBZ
  refine bodyPost_ret (by simp [results, Try.results56, go_sem, *]; rfl) rfl ?_
  exact ⟨rfl, by first | exact hBZ.out | (rw [hg]; exact hBZ.out)⟩
set_option maxHeartbeats 1000000 in
theorem rhead_lo (D : Rd w q m g₀ n B cl h l) (at_ : Int) (h8 : at_ % 8 = 0) (hf : at_ < ((g₀ + 8 : Nat) : Int)) : Calls Try.prog 56 #[.pointer (some ⟨q, 0, none⟩), .int .i64 at_] w fun e w' => e = .returned (.tuple #[wdV wd0, .int .i64 0, .bool false]) ∧ Below w.heap.size w w' := by
  have z8 : (at_.tmod 8 != 0) = false := by simpa using (tm8 at_).2 h8
  have y8 : (at_ % 8 != 0) = false := by simpa using h8
  have hfar := D.far
  have hb' : (g₀ : Int) ≤ 143360 := by omega
  have i1 : at_ < (g₀ : Int) + 8 := by omega
  have hDx := D.bel ((Below.refl w.heap.size w).alloc (Nat.le_refl _) (.cells (wdC wd0).toArray 34))
  have hBx : Below w.heap.size w (w.alloc (.cells (wdC wd0).toArray 34)) := (Below.refl _ _).alloc (Nat.le_refl _) _
  have r0 := Bk.fresh w 34 (wdC wd0).toArray
  obtain ⟨g, hg⟩ : ∃ g, w.heap.size = g := ⟨_, rfl⟩
  obtain ⟨W, hW⟩ : ∃ W, w.alloc (.cells (wdC wd0).toArray 34) = W := ⟨_, rfl⟩
  rw [hW] at hDx hBx r0
  rw [hg] at r0 hBx
  have hW' : w.alloc (.cells #[.string ⟨#[]⟩, .int .i64 0, .int .i64 0, .bool false, .bool false, .bool false] 34) = W := hW
  have c0 := hDx.c0
  have c1 := hDx.c1
  have hto0 := Lib.hid (rto_any hDx)
  have hto1 := Lib.hid (fun k => rto_any (hDx.draws k))
  have e0 := r0.cell 0
  have e1 := r0.cell 1
  have e2 := r0.cell 2
  have e3 := r0.cell 3
  have e4 := r0.cell 4
  have e5 := r0.cell 5
  simp [wdC, wd0] at e0 e1 e2 e3 e4 e5
  have f0 := r0.free 0
  have f1 := r0.free 1
  have f2 := r0.free 2
  have f3 := r0.free 3
  have f4 := r0.free 4
  have f5 := r0.free 5
  clear D h8 hf hfar
  replace hDx := Lib.hid hDx
  replace r0 := Lib.hid r0
  replace hBx := Lib.hid hBx
  clear hW
  go_enter Try.func56, Try.ntmps56
  go_wp2_with (fail)
  clear c0 c1 e0 e1 e2 e3 e4 e5 f0 f1 f2 f3 f4 f5
  have hZ0 : ∃ Z, set6 W g wd0 = Z := ⟨_, rfl⟩
  obtain ⟨Z, hZ⟩ := hZ0
  have rZ : Bk Z g 34 (wdC wd0).toArray := by rw [← hZ]; exact set6_bk r0.out
  have hBZ : Below g w Z := by rw [← hZ]; exact set6_below hBx.out (Nat.le_refl _)
  unfold set6 at hZ
  first | rw [hZ] | (simp only [wd0, Int.ofNat_zero, Int.natCast_zero] at hZ; rw [hZ])
  clear hZ
  have e0 := rZ.cell 0
  have e1 := rZ.cell 1
  have e2 := rZ.cell 2
  have e3 := rZ.cell 3
  have e4 := rZ.cell 4
  have e5 := rZ.cell 5
  simp [wdC, wd0] at e0 e1 e2 e3 e4 e5
  replace rZ := Lib.hid rZ
  replace hBZ := Lib.hid hBZ
  refine bodyPost_ret (by simp [results, Try.results56, go_sem, *]; rfl) rfl ?_
  exact ⟨rfl, by first | exact hBZ.out | (rw [hg]; exact hBZ.out)⟩
set_option maxHeartbeats 1000000 in
theorem rhead_hi (D : Rd w q m g₀ n B cl h l) (a : Nat) (ha : (a : Int) ≤ 9223372036854775807) (h8 : (a : Int) % 8 = 0) (hf : g₀ + 8 ≤ a) (hy : g₀ + n < a + 16) : Calls Try.prog 56 #[.pointer (some ⟨q, 0, none⟩), .int .i64 a] w fun e w' => e = .returned (.tuple #[wdV wd0, .int .i64 0, .bool false]) ∧ Below w.heap.size w w' := by
  have y8 : ((a : Int) % 8 != 0) = false := by simpa using h8
  have hfar := D.far
  have hn24 := D.n24
  have hb' : (g₀ : Int) ≤ 143360 := by omega
  have i1 : ¬ (a : Int) < (g₀ : Int) + 8 := by omega
  obtain ⟨y, hyy⟩ : ∃ y, g₀ + n = y := ⟨_, rfl⟩
  have i2 : (y : Int) - 16 < a := by omega
  have e9 : IntKind.i64.wrap ((y : Int) - 16) = y - 16 := by rw [IntKind.wrap_i64]; omega
  have hDx := D.bel ((Below.refl w.heap.size w).alloc (Nat.le_refl _) (.cells (wdC wd0).toArray 34))
  have hBx : Below w.heap.size w (w.alloc (.cells (wdC wd0).toArray 34)) := (Below.refl _ _).alloc (Nat.le_refl _) _
  have r0 := Bk.fresh w 34 (wdC wd0).toArray
  obtain ⟨g, hg⟩ : ∃ g, w.heap.size = g := ⟨_, rfl⟩
  obtain ⟨W, hW⟩ : ∃ W, w.alloc (.cells (wdC wd0).toArray 34) = W := ⟨_, rfl⟩
  rw [hW] at hDx hBx r0
  rw [hg] at r0 hBx
  have hW' : w.alloc (.cells #[.string ⟨#[]⟩, .int .i64 0, .int .i64 0, .bool false, .bool false, .bool false] 34) = W := hW
  have c0 := hDx.c0
  have c1 := hDx.c1
  have hto0 := Lib.hid (rto_any hDx)
  have hto1 := Lib.hid (fun k => rto_any (hDx.draws k))
  have e0 := r0.cell 0
  have e1 := r0.cell 1
  have e2 := r0.cell 2
  have e3 := r0.cell 3
  have e4 := r0.cell 4
  have e5 := r0.cell 5
  simp [wdC, wd0] at e0 e1 e2 e3 e4 e5
  have f0 := r0.free 0
  have f1 := r0.free 1
  have f2 := r0.free 2
  have f3 := r0.free 3
  have f4 := r0.free 4
  have f5 := r0.free 5
  rw [hyy] at hto0 hto1
  clear D h8 hfar hn24 hf hy hyy
  replace hDx := Lib.hid hDx
  replace r0 := Lib.hid r0
  replace hBx := Lib.hid hBx
  clear hW
  go_enter Try.func56, Try.ntmps56
  go_wp2_with (fail)
  refine hto0.out.mono ?_
  rintro e w1 ⟨rfl, k1, hk1⟩
  have r0 := Lib.hid (r0.out.draws k1)
  have hBx := Lib.hid (below_drawn hBx.out k1)
  obtain ⟨W2, hW2⟩ : ∃ W2, W.drewN k1 = W2 := ⟨_, rfl⟩
  rw [hW2] at r0 hBx hk1
  subst hk1
  clear hW2 c0 c1
  clear e0 e1 e2 e3 e4 e5 f0 f1 f2 f3 f4 f5
  have e0 := r0.out.cell 0
  have e1 := r0.out.cell 1
  have e2 := r0.out.cell 2
  have e3 := r0.out.cell 3
  have e4 := r0.out.cell 4
  have e5 := r0.out.cell 5
  simp [wdC, wd0] at e0 e1 e2 e3 e4 e5
  have f0 := r0.out.free 0
  have f1 := r0.out.free 1
  have f2 := r0.out.free 2
  have f3 := r0.out.free 3
  have f4 := r0.out.free 4
  have f5 := r0.out.free 5
  go_wp2_with (fail)
  clear e0 e1 e2 e3 e4 e5 f0 f1 f2 f3 f4 f5
  have hZ0 : ∃ Z, set6 w1 g wd0 = Z := ⟨_, rfl⟩
  obtain ⟨Z, hZ⟩ := hZ0
  have rZ : Bk Z g 34 (wdC wd0).toArray := by rw [← hZ]; exact set6_bk r0.out
  have hBZ : Below g w Z := by rw [← hZ]; exact set6_below hBx.out (Nat.le_refl _)
  unfold set6 at hZ
  first | rw [hZ] | (simp only [wd0, Int.ofNat_zero, Int.natCast_zero] at hZ; rw [hZ])
  clear hZ
  have e0 := rZ.cell 0
  have e1 := rZ.cell 1
  have e2 := rZ.cell 2
  have e3 := rZ.cell 3
  have e4 := rZ.cell 4
  have e5 := rZ.cell 5
  simp [wdC, wd0] at e0 e1 e2 e3 e4 e5
  replace rZ := Lib.hid rZ
  replace hBZ := Lib.hid hBZ
  refine bodyPost_ret (by simp [results, Try.results56, go_sem, *]; rfl) rfl ?_
  first | exact ⟨rfl, by first | exact hBZ.out | (rw [hg]; exact hBZ.out)⟩
set_option maxRecDepth 100000 in
set_option maxHeartbeats 4000000 in
theorem rhead_in_no (D : Rd w q m g₀ n B cl h l) (a : Nat) (h8 : (a : Int) % 8 = 0) (hf : g₀ + 8 ≤ a) (hy : a + 16 ≤ g₀ + n) (hno : (B.getD (a + 8) 0).toNat % 32 = 0 ∨ g₀ + n < upN (a + 9 + (B.getD (a + 8) 0).toNat % 32)) : Calls Try.prog 56 #[.pointer (some ⟨q, 0, none⟩), .int .i64 a] w fun e w' => e = .returned (.tuple #[wdV wd0, .int .i64 0, .bool false]) ∧ Below w.heap.size w w' := by
  have y8 : ((a : Int) % 8 != 0) = false := by simpa using h8
  have hfar := D.far
  have hn24 := D.n24
  have hb' : (g₀ : Int) ≤ 143360 := by omega
  have i1 : ¬ (a : Int) < (g₀ : Int) + 8 := by omega
  obtain ⟨y, hyy⟩ : ∃ y, g₀ + n = y := ⟨_, rfl⟩
  have i2 : decide ((y : Int) - 16 < a) = false := decide_eq_false (by omega)
  have e9 : IntKind.i64.wrap ((y : Int) - 16) = y - 16 := by rw [IntKind.wrap_i64]; omega
  obtain ⟨i, hi⟩ : ∃ i, a + 8 - g₀ = i := ⟨_, rfl⟩
  have e10 : IntKind.i64.wrap ((a : Int) + 8) = (a : Int) + 8 := by rw [IntKind.wrap_i64]; omega
  have e8 : IntKind.i64.wrap ((a : Int) + 8 - g₀) = (i : Int) := by rw [IntKind.wrap_i64]; omega
  have x1 : (i : Int) < n := by omega
  have x2 : (0 : Int) ≤ i := by omega
  have x3 : ¬ (i : Int) < 0 := by omega
  obtain ⟨c, hc⟩ : ∃ c, B.getD (a + 8) 0 = c := ⟨_, rfl⟩
  have hia : g₀ + i = a + 8 ∧ i < n := by omega
  obtain ⟨mm, hm⟩ : ∃ mm, c.toNat % 32 = mm := ⟨_, rfl⟩
  have hc256 := c.toNat_lt
  have e11 : (c.toNat : Int).tmod 32 = (mm : Int) := by rw [Int.tmod_eq_emod_of_nonneg (by omega)]; omega
  have e16 : (c.toNat : Int) % 32 = (mm : Int) := by omega
  have e12 : IntKind.i64.wrap (c.toNat : Int) = c.toNat := by rw [IntKind.wrap_i64]; omega
  have e13 : IntKind.i64.wrap ((a : Int) + 9) = (a : Int) + 9 := by rw [IntKind.wrap_i64]; omega
  obtain ⟨z, hz⟩ : ∃ z, a + 9 + mm = z := ⟨_, rfl⟩
  have e14 : IntKind.i64.wrap ((a : Int) + 9 + mm) = (z : Int) := by rw [IntKind.wrap_i64]; omega
  have hU := fun w => rup_any z (by omega) w
  obtain ⟨uz, huz⟩ : ∃ uz, upN z = uz := ⟨_, rfl⟩
  rw [huz] at hU
  have hzu := upN_le z
  rw [huz] at hzu
  have hDx := D.bel ((Below.refl w.heap.size w).alloc (Nat.le_refl _) (.cells (wdC wd0).toArray 34))
  have hBx : Below w.heap.size w (w.alloc (.cells (wdC wd0).toArray 34)) := (Below.refl _ _).alloc (Nat.le_refl _) _
  have r0 := Bk.fresh w 34 (wdC wd0).toArray
  obtain ⟨g, hg⟩ : ∃ g, w.heap.size = g := ⟨_, rfl⟩
  obtain ⟨W, hW⟩ : ∃ W, w.alloc (.cells (wdC wd0).toArray 34) = W := ⟨_, rfl⟩
  rw [hW] at hDx hBx r0
  rw [hg] at r0 hBx
  have hW' : w.alloc (.cells #[.string ⟨#[]⟩, .int .i64 0, .int .i64 0, .bool false, .bool false, .bool false] 34) = W := hW
  have c0 := hDx.c0
  have c1 := hDx.c1
  have hto0 := Lib.hid (rto_any hDx)
  have hto1 := Lib.hid (fun k => rto_any (hDx.draws k))
  have e0 := r0.cell 0
  have e1 := r0.cell 1
  have e2 := r0.cell 2
  have e3 := r0.cell 3
  have e4 := r0.cell 4
  have e5 := r0.cell 5
  simp [wdC, wd0] at e0 e1 e2 e3 e4 e5
  have f0 := r0.free 0
  have f1 := r0.free 1
  have f2 := r0.free 2
  have f3 := r0.free 3
  have f4 := r0.free 4
  have f5 := r0.free 5
  rw [hyy] at hto0 hto1
  replace hU := Lib.hid hU
  replace hia := Lib.hid hia
  replace hDx := Lib.hid hDx
  replace r0 := Lib.hid r0
  replace hBx := Lib.hid hBx
  clear hW
  go_enter Try.func56, Try.ntmps56
  go_wp2_with (fail)
  refine hto0.out.mono ?_
  rintro e w1 ⟨rfl, k1, hk1⟩
  have r0 := Lib.hid (r0.out.draws k1)
  have hBx := Lib.hid (below_drawn hBx.out k1)
  have D1 := hDx.out.draws k1
  obtain ⟨W2, hW2⟩ : ∃ W2, W.drewN k1 = W2 := ⟨_, rfl⟩
  rw [hW2] at r0 hBx hk1 D1
  subst hk1
  clear hW2 c0 c1 hto0 hto1
  have c0 := D1.c0
  have c1 := D1.c1
  have y0 := D1.byte i hia.out.2
  rw [hia.out.1, hc] at y0
  have r9 := r0
  replace D1 := Lib.hid D1
  clear e0 e1 e2 e3 e4 e5 f0 f1 f2 f3 f4 f5
  go_wp2_with (fail)
  go_quiet (fail)
  have D2 := D1.out.draws nq
  have r0 := Lib.hid (r9.out.draws nq)
  have hBx := Lib.hid (below_drawn hBx.out nq)
  have hto0 := Lib.hid (rto_any D2)
  rw [hyy] at hto0
  obtain ⟨w2, hw2⟩ : ∃ w2, w1.drewN nq = w2 := ⟨_, rfl⟩
  rw [hw2] at r0 hBx D2 hto0 ⊢
  clear hw2 c0 c1 y0 r9 D1
  have e0 := r0.out.cell 0
  have e1 := r0.out.cell 1
  have e2 := r0.out.cell 2
  have e3 := r0.out.cell 3
  have e4 := r0.out.cell 4
  have e5 := r0.out.cell 5
  simp [wdC, wd0] at e0 e1 e2 e3 e4 e5
  have f0 := r0.out.free 0
  have f1 := r0.out.free 1
  have f2 := r0.out.free 2
  have f3 := r0.out.free 3
  have f4 := r0.out.free 4
  have f5 := r0.out.free 5
  replace D2 := Lib.hid D2
  rw [hc, hm, hz, huz, hyy] at hno
  by_cases hm0 : mm = 0
  · subst hm0
    go_wp2_with (fail)
    clear e0 e1 e2 e3 e4 e5 f0 f1 f2 f3 f4 f5
    have hZ0 : ∃ Z, set6 w2 g wd0 = Z := ⟨_, rfl⟩
    obtain ⟨Z, hZ⟩ := hZ0
    have rZ : Bk Z g 34 (wdC wd0).toArray := by rw [← hZ]; exact set6_bk r0.out
    have hBZ : Below g w Z := by rw [← hZ]; exact set6_below hBx.out (Nat.le_refl _)
    unfold set6 at hZ
    first | rw [hZ] | (simp only [wd0, Int.ofNat_zero, Int.natCast_zero] at hZ; rw [hZ])
    clear hZ
    have e0 := rZ.cell 0
    have e1 := rZ.cell 1
    have e2 := rZ.cell 2
    have e3 := rZ.cell 3
    have e4 := rZ.cell 4
    have e5 := rZ.cell 5
    simp [wdC, wd0] at e0 e1 e2 e3 e4 e5
    replace rZ := Lib.hid rZ
    replace hBZ := Lib.hid hBZ
    refine bodyPost_ret (by simp [results, Try.results56, go_sem, *]; rfl) rfl ?_
    first | exact ⟨rfl, by first | exact hBZ.out | (rw [hg]; exact hBZ.out)⟩
  · have j1 : ((mm : Int) == 0) = false := by simp; omega
    have j2 : (y : Int) < uz := by omega
    go_wp2_with (fail)
    refine (hU.out _).mono ?_
    rintro e w3 ⟨rfl, hw3⟩
    have hw3 := hw3.symm
    subst hw3
    go_wp2_with (fail)
    refine hto0.out.mono ?_
    rintro e w4 ⟨rfl, k2, hk2⟩
    have r0 := Lib.hid (r0.out.draws k2)
    have hBx := Lib.hid (below_drawn hBx.out k2)
    have D4 := D2.out.draws k2
    obtain ⟨W5, hW5⟩ : ∃ W5, w2.drewN k2 = W5 := ⟨_, rfl⟩
    rw [hW5] at r0 hBx hk2 D4
    subst hk2
    clear hW5 D2 hto0
    replace D4 := Lib.hid D4
    clear e0 e1 e2 e3 e4 e5 f0 f1 f2 f3 f4 f5
    have e0 := r0.out.cell 0
    have e1 := r0.out.cell 1
    have e2 := r0.out.cell 2
    have e3 := r0.out.cell 3
    have e4 := r0.out.cell 4
    have e5 := r0.out.cell 5
    simp [wdC, wd0] at e0 e1 e2 e3 e4 e5
    have f0 := r0.out.free 0
    have f1 := r0.out.free 1
    have f2 := r0.out.free 2
    have f3 := r0.out.free 3
    have f4 := r0.out.free 4
    have f5 := r0.out.free 5
    go_wp2_with (fail)
    clear e0 e1 e2 e3 e4 e5 f0 f1 f2 f3 f4 f5
    have hZ0 : ∃ Z, set6 w4 g wd0 = Z := ⟨_, rfl⟩
    obtain ⟨Z, hZ⟩ := hZ0
    have rZ : Bk Z g 34 (wdC wd0).toArray := by rw [← hZ]; exact set6_bk r0.out
    have hBZ : Below g w Z := by rw [← hZ]; exact set6_below hBx.out (Nat.le_refl _)
    unfold set6 at hZ
    first | rw [hZ] | (simp only [wd0, Int.ofNat_zero, Int.natCast_zero] at hZ; rw [hZ])
    clear hZ
    have e0 := rZ.cell 0
    have e1 := rZ.cell 1
    have e2 := rZ.cell 2
    have e3 := rZ.cell 3
    have e4 := rZ.cell 4
    have e5 := rZ.cell 5
    simp [wdC, wd0] at e0 e1 e2 e3 e4 e5
    replace rZ := Lib.hid rZ
    replace hBZ := Lib.hid hBZ
    refine bodyPost_ret (by simp [results, Try.results56, go_sem, *]; rfl) rfl ?_
    first | exact ⟨rfl, by first | exact hBZ.out | (rw [hg]; exact hBZ.out)⟩
end
end Go.Proofs.Ytoaiiimnfgbcaaa
