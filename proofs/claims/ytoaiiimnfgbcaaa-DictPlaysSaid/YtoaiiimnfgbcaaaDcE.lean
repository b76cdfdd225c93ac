import Derived.Test.YtoaiiimnfgbcaaaDcD
import Derived.Maps.OwnOps
import Derived.Maps.Views
namespace Go.Proofs.Ytoaiiimnfgbcaaa
open Go.RowKit Go.Maps
set_option linter.unusedVariables false
set_option linter.unusedSimpArgs false
/-! head -/
structure Wd where
  name : ByteArray
  hd : Nat
  xt : Nat
  imm : Bool
  hid : Bool
  inl : Bool
def wdC (x : Wd) : List Value := [.string x.name, .int .i64 x.hd, .int .i64 x.xt, .bool x.imm, .bool x.hid, .bool x.inl]
def wdV (x : Wd) : Value := .agg #[.string x.name, .int .i64 x.hd, .int .i64 x.xt, .bool x.imm, .bool x.hid, .bool x.inl]
def wd0 : Wd := ⟨⟨#[]⟩, 0, 0, false, false, false⟩
def wdB (B : List UInt8) (a : Nat) (c : UInt8) : Wd := ⟨⟨(rowL B (a + 9) (c.toNat % 32)).toArray⟩, a, upN (a + 9 + c.toNat % 32), c.toNat / 64 % 2 == 1, c.toNat / 32 % 2 == 1, c.toNat / 128 == 1⟩
/-- the word at an address, and where it leads -/
def headP (B : List UInt8) (f y : Nat) (at_ : Int) : Option (Wd × Int) :=
  if at_ % 8 = 0 ∧ (f : Int) ≤ at_ ∧ at_ + 16 ≤ y then
    if (B.getD (at_.toNat + 8) 0).toNat % 32 ≠ 0 ∧ upN (at_.toNat + 9 + (B.getD (at_.toNat + 8) 0).toNat % 32) ≤ y then some (wdB B at_.toNat (B.getD (at_.toNat + 8) 0), cel B at_.toNat) else none
  else none
theorem i64_and31 (n : Int) : bits .and .i64 n 31 = n % 32 := by
  have h7 : (BitVec.ofInt 64 31).toNat = 2 ^ 5 - 1 := by decide
  have e : bits .and .i64 n 31 = IntKind.i64.wrap ((BitVec.ofInt 64 n &&& BitVec.ofInt 64 31).toNat : Int) := rfl
  rw [e, BitVec.toNat_and, h7, Nat.and_two_pow_sub_one_eq_mod, BitVec.toNat_ofInt, IntKind.wrap_i64]
  omega
def set6 (W : World) (g : Nat) (x : Wd) : World := (((((W.setCell ⟨g, 0, none⟩ (.string x.name)).setCell ⟨g, 1, none⟩ (.int .i64 x.hd)).setCell ⟨g, 2, none⟩ (.int .i64 x.xt)).setCell ⟨g, 3, none⟩ (.bool x.imm)).setCell ⟨g, 4, none⟩ (.bool x.hid)).setCell ⟨g, 5, none⟩ (.bool x.inl)
theorem set6_bk {W : World} {g : Nat} {x y : Wd} (h : Bk W g 34 (wdC x).toArray) : Bk (set6 W g y) g 34 (wdC y).toArray := by
  have := (((((h.put 0 (.string y.name)).put 1 (.int .i64 y.hd)).put 2 (.int .i64 y.xt)).put 3 (.bool y.imm)).put 4 (.bool y.hid)).put 5 (.bool y.inl)
  exact this
theorem set6_below {W V : World} {g K : Nat} {x : Wd} (h : Below K V W) (hg : K ≤ g) : Below K V (set6 W g x) :=
  (((((h.setCell (p := ⟨g, 0, none⟩) hg _).setCell (p := ⟨g, 1, none⟩) hg _).setCell (p := ⟨g, 2, none⟩) hg _).setCell (p := ⟨g, 3, none⟩) hg _).setCell (p := ⟨g, 4, none⟩) hg _).setCell (p := ⟨g, 5, none⟩) hg _
section
variable {w : World} {d p b r f y h l : Nat} {L : Lay} {B : List UInt8} {o s : Bool}
set_option maxHeartbeats 1000000 in
theorem head_al (D : Dc w d p b L r f y B o s h l) (at_ : Int) (h8 : ¬ at_ % 8 = 0) : Calls Try.prog 62 #[.pointer (some ⟨d, 0, none⟩), .int .i64 at_] w fun e w' => e = .returned (.tuple #[wdV wd0, .int .i64 0, .bool false]) ∧ Below w.heap.size w w' := by
  have z8 : (at_.tmod 8 != 0) = true := by
    have : ¬ at_.tmod 8 = 0 := fun e => h8 ((tmod_zero at_).1 e)
    simpa using this
  have y8 : (at_ % 8 != 0) = true := by simpa using h8
  have hDx := D.bel ((Below.refl w.heap.size w).alloc (Nat.le_refl _) (.cells (wdC wd0).toArray 34))
  have hBx : Below w.heap.size w (w.alloc (.cells (wdC wd0).toArray 34)) := (Below.refl _ _).alloc (Nat.le_refl _) _
  have r0 := Bk.fresh w 34 (wdC wd0).toArray
  obtain ⟨g, hg⟩ : ∃ g, w.heap.size = g := ⟨_, rfl⟩
  obtain ⟨W, hW⟩ : ∃ W, w.alloc (.cells (wdC wd0).toArray 34) = W := ⟨_, rfl⟩
  rw [hW] at hDx hBx r0
  rw [hg] at r0 hBx
  have hW' : w.alloc (.cells #[.string ⟨#[]⟩, .int .i64 0, .int .i64 0, .bool false, .bool false, .bool false] 34) = W := hW
  have c0 := hDx.c0
  have c1 := hDx.c1
  have c2 := hDx.c2
  have e0 := r0.cell 0
  have e1 := r0.cell 1
  have e2 := r0.cell 2
  have e3 := r0.cell 3
  have e4 := r0.cell 4
  have e5 := r0.cell 5
  simp [wdC, wd0] at e0 e1 e2 e3 e4 e5
  have f0 := r0.free 0
  have f1 := r0.free 1
  have f2 := r0.free 2
  have f3 := r0.free 3
  have f4 := r0.free 4
  have f5 := r0.free 5
  clear D h8
  replace hDx := Lib.hid hDx
  replace r0 := Lib.hid r0
  replace hBx := Lib.hid hBx
  clear hW
  go_enter Try.func62, Try.ntmps62
  go_wp2_with (fail)
  clear c0 c1 c2 e0 e1 e2 e3 e4 e5 f0 f1 f2 f3 f4 f5
  have hZ0 : ∃ Z, set6 W g wd0 = Z := ⟨_, rfl⟩
  obtain ⟨Z, hZ⟩ := hZ0
  have rZ : Bk Z g 34 (wdC wd0).toArray := by rw [← hZ]; exact set6_bk r0.out
  have hBZ : Below g w Z := by rw [← hZ]; exact set6_below hBx.out (Nat.le_refl _)
  unfold set6 at hZ
  first | rw [hZ] | (simp only [wd0, Int.ofNat_zero, Int.natCast_zero] at hZ; rw [hZ])
  clear hZ
  have e0 := rZ.cell 0
  have e1 := rZ.cell 1
  have e2 := rZ.cell 2
  have e3 := rZ.cell 3
  have e4 := rZ.cell 4
  have e5 := rZ.cell 5
  simp [wdC, wd0] at e0 e1 e2 e3 e4 e5
  replace rZ := Lib.hid rZ
  replace hBZ := Lib.hid hBZ
  refine bodyPost_ret (by simp [results, Try.results62, go_sem, *]; rfl) rfl ?_
  exact ⟨rfl, by first | exact hBZ.out | (rw [hg]; exact hBZ.out)⟩
set_option maxHeartbeats 1000000 in
theorem head_lo (D : Dc w d p b L r f y B o s h l) (at_ : Int) (h8 : at_ % 8 = 0) (hf : at_ < f) : Calls Try.prog 62 #[.pointer (some ⟨d, 0, none⟩), .int .i64 at_] w fun e w' => e = .returned (.tuple #[wdV wd0, .int .i64 0, .bool false]) ∧ Below w.heap.size w w' := by
  have z8 : (at_.tmod 8 != 0) = false := tmod_even at_ h8
  have y8 : (at_ % 8 != 0) = false := by simpa using h8
  have hDx := D.bel ((Below.refl w.heap.size w).alloc (Nat.le_refl _) (.cells (wdC wd0).toArray 34))
  have hBx : Below w.heap.size w (w.alloc (.cells (wdC wd0).toArray 34)) := (Below.refl _ _).alloc (Nat.le_refl _) _
  have r0 := Bk.fresh w 34 (wdC wd0).toArray
  obtain ⟨g, hg⟩ : ∃ g, w.heap.size = g := ⟨_, rfl⟩
  obtain ⟨W, hW⟩ : ∃ W, w.alloc (.cells (wdC wd0).toArray 34) = W := ⟨_, rfl⟩
  rw [hW] at hDx hBx r0
  rw [hg] at r0 hBx
  have hW' : w.alloc (.cells #[.string ⟨#[]⟩, .int .i64 0, .int .i64 0, .bool false, .bool false, .bool false] 34) = W := hW
  have c0 := hDx.c0
  have c1 := hDx.c1
  have c2 := hDx.c2
  have e0 := r0.cell 0
  have e1 := r0.cell 1
  have e2 := r0.cell 2
  have e3 := r0.cell 3
  have e4 := r0.cell 4
  have e5 := r0.cell 5
  simp [wdC, wd0] at e0 e1 e2 e3 e4 e5
  have f0 := r0.free 0
  have f1 := r0.free 1
  have f2 := r0.free 2
  have f3 := r0.free 3
  have f4 := r0.free 4
  have f5 := r0.free 5
  clear D h8
  replace hDx := Lib.hid hDx
  replace r0 := Lib.hid r0
  replace hBx := Lib.hid hBx
  clear hW
  go_enter Try.func62, Try.ntmps62
  go_wp2_with (fail)
  clear c0 c1 c2 e0 e1 e2 e3 e4 e5 f0 f1 f2 f3 f4 f5
  have hZ0 : ∃ Z, set6 W g wd0 = Z := ⟨_, rfl⟩
  obtain ⟨Z, hZ⟩ := hZ0
  have rZ : Bk Z g 34 (wdC wd0).toArray := by rw [← hZ]; exact set6_bk r0.out
  have hBZ : Below g w Z := by rw [← hZ]; exact set6_below hBx.out (Nat.le_refl _)
  unfold set6 at hZ
  first | rw [hZ] | (simp only [wd0, Int.ofNat_zero, Int.natCast_zero] at hZ; rw [hZ])
  clear hZ
  have e0 := rZ.cell 0
  have e1 := rZ.cell 1
  have e2 := rZ.cell 2
  have e3 := rZ.cell 3
  have e4 := rZ.cell 4
  have e5 := rZ.cell 5
  simp [wdC, wd0] at e0 e1 e2 e3 e4 e5
  replace rZ := Lib.hid rZ
  replace hBZ := Lib.hid hBZ
  refine bodyPost_ret (by simp [results, Try.results62, go_sem, *]; rfl) rfl ?_
  exact ⟨rfl, by first | exact hBZ.out | (rw [hg]; exact hBZ.out)⟩
set_option maxHeartbeats 1000000 in
theorem head_hi (D : Dc w d p b L r f y B o s h l) (a : Nat) (h8 : (a : Int) % 8 = 0) (hf : f ≤ a) (hy : y < a + 16) : Calls Try.prog 62 #[.pointer (some ⟨d, 0, none⟩), .int .i64 a] w fun e w' => e = .returned (.tuple #[wdV wd0, .int .i64 0, .bool false]) ∧ Below w.heap.size w w' := by
  have y8 : ((a : Int) % 8 != 0) = false := by simpa using h8
  have hok := D.ok
  have e9 : IntKind.i64.wrap ((y : Int) - 16) = y - 16 := by rw [IntKind.wrap_i64]; omega
  have i1 : ¬ (a : Int) < f := by omega
  have i2 : (y : Int) - 16 < a := by omega
  have hDx := D.bel ((Below.refl w.heap.size w).alloc (Nat.le_refl _) (.cells (wdC wd0).toArray 34))
  have hBx : Below w.heap.size w (w.alloc (.cells (wdC wd0).toArray 34)) := (Below.refl _ _).alloc (Nat.le_refl _) _
  have r0 := Bk.fresh w 34 (wdC wd0).toArray
  obtain ⟨g, hg⟩ : ∃ g, w.heap.size = g := ⟨_, rfl⟩
  obtain ⟨W, hW⟩ : ∃ W, w.alloc (.cells (wdC wd0).toArray 34) = W := ⟨_, rfl⟩
  rw [hW] at hDx hBx r0
  rw [hg] at r0 hBx
  have hW' : w.alloc (.cells #[.string ⟨#[]⟩, .int .i64 0, .int .i64 0, .bool false, .bool false, .bool false] 34) = W := hW
  have c0 := hDx.c0
  have c1 := hDx.c1
  have c2 := hDx.c2
  have e0 := r0.cell 0
  have e1 := r0.cell 1
  have e2 := r0.cell 2
  have e3 := r0.cell 3
  have e4 := r0.cell 4
  have e5 := r0.cell 5
  simp [wdC, wd0] at e0 e1 e2 e3 e4 e5
  have f0 := r0.free 0
  have f1 := r0.free 1
  have f2 := r0.free 2
  have f3 := r0.free 3
  have f4 := r0.free 4
  have f5 := r0.free 5
  clear D h8 hok
  replace hDx := Lib.hid hDx
  replace r0 := Lib.hid r0
  replace hBx := Lib.hid hBx
  clear hW
  go_enter Try.func62, Try.ntmps62
  go_wp2_with (fail)
  clear c0 c1 c2 e0 e1 e2 e3 e4 e5 f0 f1 f2 f3 f4 f5
  have hZ0 : ∃ Z, set6 W g wd0 = Z := ⟨_, rfl⟩
  obtain ⟨Z, hZ⟩ := hZ0
  have rZ : Bk Z g 34 (wdC wd0).toArray := by rw [← hZ]; exact set6_bk r0.out
  have hBZ : Below g w Z := by rw [← hZ]; exact set6_below hBx.out (Nat.le_refl _)
  unfold set6 at hZ
  first | rw [hZ] | (simp only [wd0, Int.ofNat_zero, Int.natCast_zero] at hZ; rw [hZ])
  clear hZ
  have e0 := rZ.cell 0
  have e1 := rZ.cell 1
  have e2 := rZ.cell 2
  have e3 := rZ.cell 3
  have e4 := rZ.cell 4
  have e5 := rZ.cell 5
  simp [wdC, wd0] at e0 e1 e2 e3 e4 e5
  replace rZ := Lib.hid rZ
  replace hBZ := Lib.hid hBZ
  refine bodyPost_ret (by simp [results, Try.results62, go_sem, *]; rfl) rfl ?_
  exact ⟨rfl, by first | exact hBZ.out | (rw [hg]; exact hBZ.out)⟩
set_option maxHeartbeats 1000000 in
theorem head_in_no (D : Dc w d p b L r f y B o s h l) (a : Nat) (h8 : (a : Int) % 8 = 0) (hf : f ≤ a) (hy : a + 16 ≤ y) (hno : (B.getD (a + 8) 0).toNat % 32 = 0 ∨ y < upN (a + 9 + (B.getD (a + 8) 0).toNat % 32)) : Calls Try.prog 62 #[.pointer (some ⟨d, 0, none⟩), .int .i64 a] w fun e w' => e = .returned (.tuple #[wdV wd0, .int .i64 0, .bool false]) ∧ Below w.heap.size w w' := by
  have y8 : ((a : Int) % 8 != 0) = false := by simpa using h8
  have hok := D.ok
  have e9 : IntKind.i64.wrap ((y : Int) - 16) = y - 16 := by rw [IntKind.wrap_i64]; omega
  have i1 : ¬ (a : Int) < f := by omega
  have i2 : ¬ (y : Int) - 16 < a := by omega
  obtain ⟨q, hq⟩ : ∃ q, a + 8 = q := ⟨_, rfl⟩
  have e10 : IntKind.i64.wrap ((a : Int) + 8) = q := by rw [IntKind.wrap_i64]; omega
  obtain ⟨c, hc⟩ : ∃ c, B.getD q 0 = c := ⟨_, rfl⟩
  obtain ⟨v, hv⟩ : ∃ v, cel B a = v := ⟨_, rfl⟩
  obtain ⟨m, hm⟩ : ∃ m, c.toNat % 32 = m := ⟨_, rfl⟩
  have hc256 := c.toNat_lt
  have e11 : bits .and .i64 (c.toNat : Int) 31 = (m : Int) := by rw [i64_and31]; omega
  have e12 : IntKind.i64.wrap (c.toNat : Int) = c.toNat := by rw [IntKind.wrap_i64]; omega
  have e13 : IntKind.i64.wrap ((a : Int) + 9) = ((a + 9 : Nat) : Int) := by rw [IntKind.wrap_i64]; omega
  obtain ⟨z, hz⟩ : ∃ z, a + 9 + m = z := ⟨_, rfl⟩
  have e14 : IntKind.i64.wrap (((a + 9 : Nat) : Int) + m) = (z : Int) := by rw [IntKind.wrap_i64]; omega
  have e15 : IntKind.i64.wrap ((a : Int) + 9 + m) = (z : Int) := by rw [IntKind.wrap_i64]; omega
  have hU := fun w => up_any z (by omega) w
  obtain ⟨uz, huz⟩ : ∃ uz, upN z = uz := ⟨_, rfl⟩
  rw [huz] at hU
  have hzu := upN_le z
  rw [huz] at hzu
  have hDx := D.bel ((Below.refl w.heap.size w).alloc (Nat.le_refl _) (.cells (wdC wd0).toArray 34))
  have hBx : Below w.heap.size w (w.alloc (.cells (wdC wd0).toArray 34)) := (Below.refl _ _).alloc (Nat.le_refl _) _
  have r0 := Bk.fresh w 34 (wdC wd0).toArray
  obtain ⟨g, hg⟩ : ∃ g, w.heap.size = g := ⟨_, rfl⟩
  obtain ⟨W, hW⟩ : ∃ W, w.alloc (.cells (wdC wd0).toArray 34) = W := ⟨_, rfl⟩
  rw [hW] at hDx hBx r0
  rw [hg] at r0 hBx
  have hW' : w.alloc (.cells #[.string ⟨#[]⟩, .int .i64 0, .int .i64 0, .bool false, .bool false, .bool false] 34) = W := hW
  have c0 := hDx.c0
  have c1 := hDx.c1
  have c2 := hDx.c2
  have e0 := r0.cell 0
  have e1 := r0.cell 1
  have e2 := r0.cell 2
  have e3 := r0.cell 3
  have e4 := r0.cell 4
  have e5 := r0.cell 5
  simp [wdC, wd0] at e0 e1 e2 e3 e4 e5
  have f0 := r0.free 0
  have f1 := r0.free 1
  have f2 := r0.free 2
  have f3 := r0.free 3
  have f4 := r0.free 4
  have f5 := r0.free 5
  have hCell := cell_yes (mode := 0) hDx.im a v (by omega) (hDx.rd a 8 (by omega) (by omega) (by omega)) hv
  replace hDx := Lib.hid hDx
  replace r0 := Lib.hid r0
  replace hBx := Lib.hid hBx
  replace hU := Lib.hid hU
  replace hCell := Lib.hid hCell
  replace hok := Lib.hid hok
  have hmm := @run_makeMap Try.prog
  clear hW
  go_enter Try.func62, Try.ntmps62
  go_wp2_with (fail)
  refine hCell.out.mono ?_
  rintro e w1 ⟨rfl, hb1⟩
  have D1 := hDx.out.bel hb1
  have r1 := r0.out.kept hb1 r0.out.lt
  have hB1 := hBx.out.trans (hb1.mono (by have := hBx.out.size; omega))
  clear c0 c1 c2 e0 e1 e2 e3 e4 e5 f0 f1 f2 f3 f4 f5 hCell hDx r0 hBx hb1 hW'
  have c0 := D1.c0
  have c2 := D1.c2
  have hByte := byte_yes (mode := 0) D1.im q c (D1.rd q 1 (by omega) (by omega) (by omega)) hc
  replace D1 := Lib.hid D1
  have r0 := Lib.hid r1
  have hBx := Lib.hid hB1
  replace hByte := Lib.hid hByte
  clear r1 hB1
  go_wp2_with (fail)
  refine hByte.out.mono ?_
  rintro e w2 ⟨rfl, hw2⟩
  replace hw2 := hw2.symm
  subst hw2
  clear hByte
  rw [hq, hc, hm, hz, huz] at hno
  by_cases hm0 : m = 0
  · subst hm0
    go_wp2_with (fail)
    go_quiet (fail)
    obtain ⟨W2, hW2⟩ : ∃ W2, w1.drewN nq = W2 := ⟨_, rfl⟩
    have r0 := Lib.hid (r0.out.draws nq)
    have hBx := Lib.hid (below_drawn hBx.out nq)
    rw [hW2] at r0 hBx ⊢
    clear hW2 c0 c2
    have e0 : W2.cell? ⟨g, 0, none⟩ = some (.string ⟨#[]⟩) := r0.out.cell 0
    have e1 : W2.cell? ⟨g, 1, none⟩ = some (.int .i64 0) := r0.out.cell 1
    have e2 : W2.cell? ⟨g, 2, none⟩ = some (.int .i64 0) := r0.out.cell 2
    have e3 : W2.cell? ⟨g, 3, none⟩ = some (.bool false) := r0.out.cell 3
    have e4 : W2.cell? ⟨g, 4, none⟩ = some (.bool false) := r0.out.cell 4
    have e5 : W2.cell? ⟨g, 5, none⟩ = some (.bool false) := r0.out.cell 5
    have f0 := r0.out.free 0
    have f1 := r0.out.free 1
    have f2 := r0.out.free 2
    have f3 := r0.out.free 3
    have f4 := r0.out.free 4
    have f5 := r0.out.free 5
    go_wp2_with (fail)
    clear e0 e1 e2 e3 e4 e5 f0 f1 f2 f3 f4 f5
    have hZ0 : ∃ Z, set6 W2 g wd0 = Z := ⟨_, rfl⟩
    obtain ⟨Z, hZ⟩ := hZ0
    have rZ : Bk Z g 34 (wdC wd0).toArray := by rw [← hZ]; exact set6_bk r0.out
    have hBZ : Below g w Z := by rw [← hZ]; exact set6_below hBx.out (Nat.le_refl _)
    unfold set6 at hZ
    first | rw [hZ] | (simp only [wd0, Int.ofNat_zero, Int.natCast_zero] at hZ; rw [hZ])
    clear hZ
    have e0 := rZ.cell 0
    have e1 := rZ.cell 1
    have e2 := rZ.cell 2
    have e3 := rZ.cell 3
    have e4 := rZ.cell 4
    have e5 := rZ.cell 5
    simp [wdC, wd0] at e0 e1 e2 e3 e4 e5
    replace rZ := Lib.hid rZ
    replace hBZ := Lib.hid hBZ
    refine bodyPost_ret (by simp [results, Try.results62, go_sem, *]; rfl) rfl ?_
    exact ⟨rfl, by first | exact hBZ.out | (rw [hg]; exact hBZ.out)⟩
  · have j1 : ((m : Int) == 0) = false := by simp; omega
    have j2 : (y : Int) < uz := by omega
    go_wp2_with (fail)
    go_quiet ((go_at_call 33; exact Calls.quiet_of_same (hU.out _)))
    obtain ⟨W2, hW2⟩ : ∃ W2, w1.drewN nq = W2 := ⟨_, rfl⟩
    have r0 := Lib.hid (r0.out.draws nq)
    have hBx := Lib.hid (below_drawn hBx.out nq)
    rw [hW2] at r0 hBx ⊢
    clear hW2 c0 c2
    have e0 : W2.cell? ⟨g, 0, none⟩ = some (.string ⟨#[]⟩) := r0.out.cell 0
    have e1 : W2.cell? ⟨g, 1, none⟩ = some (.int .i64 0) := r0.out.cell 1
    have e2 : W2.cell? ⟨g, 2, none⟩ = some (.int .i64 0) := r0.out.cell 2
    have e3 : W2.cell? ⟨g, 3, none⟩ = some (.bool false) := r0.out.cell 3
    have e4 : W2.cell? ⟨g, 4, none⟩ = some (.bool false) := r0.out.cell 4
    have e5 : W2.cell? ⟨g, 5, none⟩ = some (.bool false) := r0.out.cell 5
    have f0 := r0.out.free 0
    have f1 := r0.out.free 1
    have f2 := r0.out.free 2
    have f3 := r0.out.free 3
    have f4 := r0.out.free 4
    have f5 := r0.out.free 5
    go_wp2_with (fail)
    clear e0 e1 e2 e3 e4 e5 f0 f1 f2 f3 f4 f5
    have hZ0 : ∃ Z, set6 W2 g wd0 = Z := ⟨_, rfl⟩
    obtain ⟨Z, hZ⟩ := hZ0
    have rZ : Bk Z g 34 (wdC wd0).toArray := by rw [← hZ]; exact set6_bk r0.out
    have hBZ : Below g w Z := by rw [← hZ]; exact set6_below hBx.out (Nat.le_refl _)
    unfold set6 at hZ
    first | rw [hZ] | (simp only [wd0, Int.ofNat_zero, Int.natCast_zero] at hZ; rw [hZ])
    clear hZ
    have e0 := rZ.cell 0
    have e1 := rZ.cell 1
    have e2 := rZ.cell 2
    have e3 := rZ.cell 3
    have e4 := rZ.cell 4
    have e5 := rZ.cell 5
    simp [wdC, wd0] at e0 e1 e2 e3 e4 e5
    replace rZ := Lib.hid rZ
    replace hBZ := Lib.hid hBZ
    refine bodyPost_ret (by simp [results, Try.results62, go_sem, *]; rfl) rfl ?_
    exact ⟨rfl, by first | exact hBZ.out | (rw [hg]; exact hBZ.out)⟩
theorem u8_and_bit (c : UInt8) : bits .and .u8 (c.toNat : Int) 32 = ((c.toNat / 32 % 2 * 32 : Nat) : Int) ∧ bits .and .u8 (c.toNat : Int) 64 = ((c.toNat / 64 % 2 * 64 : Nat) : Int) ∧ bits .and .u8 (c.toNat : Int) 128 = ((c.toNat / 128 * 128 : Nat) : Int) := by
  have h : ∀ n : Fin 256, bits .and .u8 ((UInt8.ofNat n.val).toNat : Int) 32 = (((UInt8.ofNat n.val).toNat / 32 % 2 * 32 : Nat) : Int) ∧ bits .and .u8 ((UInt8.ofNat n.val).toNat : Int) 64 = (((UInt8.ofNat n.val).toNat / 64 % 2 * 64 : Nat) : Int) ∧ bits .and .u8 ((UInt8.ofNat n.val).toNat : Int) 128 = (((UInt8.ofNat n.val).toNat / 128 * 128 : Nat) : Int) := by decide +kernel
  have := h ⟨c.toNat, c.toNat_lt⟩
  simpa using this
theorem bits_le (c : UInt8) : c.toNat / 64 % 2 ≤ 1 ∧ c.toNat / 32 % 2 ≤ 1 ∧ c.toNat / 128 ≤ 1 := by have := c.toNat_lt; omega
theorem bit_flag (x p k : Nat) (hx : x ≤ 1) (hk : 0 < k) (h : x * k = p) : ((p : Int) != 0) = (x == 1) := by
  subst h
  rcases (by omega : x = 0 ∨ x = 1) with rfl | rfl
  · simp
  · simp; omega
theorem zero_int (w : World) : (zeroValue 3).run Try.prog w = .ok (.int .i64 0) w := by kernel_rfl
abbrev Fl3 (x1 x2 x3 : Int) : DataW Unit := (((DataW.map []).put (.int .u8 32) (.lit (.int .i64 x1))).put (.int .u8 64) (.lit (.int .i64 x2))).put (.int .u8 128) (.lit (.int .i64 x3))
theorem fl3_at (x1 x2 x3 : Int) : (Fl3 x1 x2 x3).atKey (.int .u8 32) (.lit (.int .i64 0)) = .lit (.int .i64 x1) ∧ (Fl3 x1 x2 x3).atKey (.int .u8 64) (.lit (.int .i64 0)) = .lit (.int .i64 x2) ∧ (Fl3 x1 x2 x3).atKey (.int .u8 128) (.lit (.int .i64 0)) = .lit (.int .i64 x3) := by
  refine ⟨?_, ?_, ?_⟩ <;> rfl
set_option maxRecDepth 100000 in
set_option maxHeartbeats 4000000 in
theorem head_in_yes (D : Dc w d p b L r f y B o s h l) (a : Nat) (h8 : (a : Int) % 8 = 0) (hf : f ≤ a) (hy : a + 16 ≤ y) (hm1 : (B.getD (a + 8) 0).toNat % 32 ≠ 0) (hup : upN (a + 9 + (B.getD (a + 8) 0).toNat % 32) ≤ y) : Calls Try.prog 62 #[.pointer (some ⟨d, 0, none⟩), .int .i64 a] w fun e w' => e = .returned (.tuple #[wdV (wdB B a (B.getD (a + 8) 0)), .int .i64 (cel B a), .bool true]) ∧ Below w.heap.size w w' := by
  have y8 : ((a : Int) % 8 != 0) = false := by simpa using h8
  have hok := D.ok
  have e9 : IntKind.i64.wrap ((y : Int) - 16) = y - 16 := by rw [IntKind.wrap_i64]; omega
  have i1 : ¬ (a : Int) < f := by omega
  have i2 : ¬ (y : Int) - 16 < a := by omega
  obtain ⟨q, hq⟩ : ∃ q, a + 8 = q := ⟨_, rfl⟩
  have e10 : IntKind.i64.wrap ((a : Int) + 8) = q := by rw [IntKind.wrap_i64]; omega
  obtain ⟨c, hc⟩ : ∃ c, B.getD q 0 = c := ⟨_, rfl⟩
  obtain ⟨v, hv⟩ : ∃ v, cel B a = v := ⟨_, rfl⟩
  obtain ⟨m, hm⟩ : ∃ m, c.toNat % 32 = m := ⟨_, rfl⟩
  have hc256 := c.toNat_lt
  have e11 : bits .and .i64 (c.toNat : Int) 31 = (m : Int) := by rw [i64_and31]; omega
  have e12 : IntKind.i64.wrap (c.toNat : Int) = c.toNat := by rw [IntKind.wrap_i64]; omega
  have e13 : IntKind.i64.wrap ((a : Int) + 9) = ((a + 9 : Nat) : Int) := by rw [IntKind.wrap_i64]; omega
  obtain ⟨z, hz⟩ : ∃ z, a + 9 + m = z := ⟨_, rfl⟩
  have e14 : IntKind.i64.wrap (((a + 9 : Nat) : Int) + m) = (z : Int) := by rw [IntKind.wrap_i64]; omega
  have e15 : IntKind.i64.wrap ((a : Int) + 9 + m) = (z : Int) := by rw [IntKind.wrap_i64]; omega
  have hU := fun w => up_any z (by omega) w
  obtain ⟨uz, huz⟩ : ∃ uz, upN z = uz := ⟨_, rfl⟩
  rw [huz] at hU
  have hzu := upN_le z
  rw [huz] at hzu
  have hDx := D.bel ((Below.refl w.heap.size w).alloc (Nat.le_refl _) (.cells (wdC wd0).toArray 34))
  have hBx : Below w.heap.size w (w.alloc (.cells (wdC wd0).toArray 34)) := (Below.refl _ _).alloc (Nat.le_refl _) _
  have r0 := Bk.fresh w 34 (wdC wd0).toArray
  obtain ⟨g, hg⟩ : ∃ g, w.heap.size = g := ⟨_, rfl⟩
  obtain ⟨W, hW⟩ : ∃ W, w.alloc (.cells (wdC wd0).toArray 34) = W := ⟨_, rfl⟩
  rw [hW] at hDx hBx r0
  rw [hg] at r0 hBx
  have hW' : w.alloc (.cells #[.string ⟨#[]⟩, .int .i64 0, .int .i64 0, .bool false, .bool false, .bool false] 34) = W := hW
  have c0 := hDx.c0
  have c1 := hDx.c1
  have c2 := hDx.c2
  have e0 := r0.cell 0
  have e1 := r0.cell 1
  have e2 := r0.cell 2
  have e3 := r0.cell 3
  have e4 := r0.cell 4
  have e5 := r0.cell 5
  simp [wdC, wd0] at e0 e1 e2 e3 e4 e5
  have f0 := r0.free 0
  have f1 := r0.free 1
  have f2 := r0.free 2
  have f3 := r0.free 3
  have f4 := r0.free 4
  have f5 := r0.free 5
  have hCell := cell_yes (mode := 0) hDx.im a v (by omega) (hDx.rd a 8 (by omega) (by omega) (by omega)) hv
  replace hDx := Lib.hid hDx
  replace r0 := Lib.hid r0
  replace hBx := Lib.hid hBx
  replace hU := Lib.hid hU
  replace hCell := Lib.hid hCell
  replace hok := Lib.hid hok
  have hmm := @run_makeMap Try.prog
  clear hW
  go_enter Try.func62, Try.ntmps62
  go_wp2_with (fail)
  refine hCell.out.mono ?_
  rintro e w1 ⟨rfl, hb1⟩
  have D1 := hDx.out.bel hb1
  have r1 := r0.out.kept hb1 r0.out.lt
  have hB1 := hBx.out.trans (hb1.mono (by have := hBx.out.size; omega))
  clear c0 c1 c2 e0 e1 e2 e3 e4 e5 f0 f1 f2 f3 f4 f5 hCell hDx r0 hBx hb1 hW'
  have c0 := D1.c0
  have c2 := D1.c2
  have hByte := byte_yes (mode := 0) D1.im q c (D1.rd q 1 (by omega) (by omega) (by omega)) hc
  replace D1 := Lib.hid D1
  have r0 := Lib.hid r1
  have hBx := Lib.hid hB1
  replace hByte := Lib.hid hByte
  clear r1 hB1
  go_wp2_with (fail)
  refine hByte.out.mono ?_
  rintro e w2 ⟨rfl, hw2⟩
  replace hw2 := hw2.symm
  subst hw2
  clear hByte
  rw [hq, hc, hm] at hm1 hup
  rw [hz, huz] at hup
  have j1 : ((m : Int) == 0) = false := by simp; omega
  have j2 : ¬ (y : Int) < uz := by omega
  go_wp2_with (fail)
  go_quiet ((go_at_call 33; exact Calls.quiet_of_same (hU.out _)))
  obtain ⟨W2, hW2⟩ : ∃ W2, w1.drewN nq = W2 := ⟨_, rfl⟩
  have D2 := D1.out.draws nq
  have r0 := Lib.hid (r0.out.draws nq)
  have hBx := Lib.hid (below_drawn hBx.out nq)
  rw [hW2] at r0 hBx D2 ⊢
  clear hW2 c0 c2 D1
  have c0 := D2.c0
  have hT := text_yes (mode := 0) D2.im (a + 9) m (by omega) (D2.rd (a + 9) m (by omega) (by have := upN_le z; omega) (by omega))
  replace hT := Lib.hid hT
  replace D2 := Lib.hid D2
  go_wp2_with (fail)
  refine hT.out.mono ?_
  rintro e w3 ⟨rfl, hw3⟩
  replace hw3 := hw3.symm
  subst hw3
  clear hT c0
  go_wp2_with (fail)
  have hown0 : ((W2.alloc (.map #[] 0)).alloc (.cells #[.int .u8 32, .int .u8 64, .int .u8 128] 5)).ownsMap Try.prog 5 (plainElem (H := Unit) Try.prog 3) W2.heap.size 0 (.map []) := (World.ownsMap_made _ _ _ _).alloc _
  have hA0 := Bk.fresh (W2.alloc (.map #[] 0)) 5 #[.int .u8 32, .int .u8 64, .int .u8 128]
  have r1 := (r0.out.past (.map #[] 0)).past (.cells #[.int .u8 32, .int .u8 64, .int .u8 128] 5)
  have hB1 : Below g w ((W2.alloc (.map #[] 0)).alloc (.cells #[.int .u8 32, .int .u8 64, .int .u8 128] 5)) := (hBx.out.alloc (by have := hBx.out.size; omega) _).alloc (by have := hBx.out.size; simp; omega) _
  have hgm : g < W2.heap.size := r0.out.lt
  have hz1 : (W2.alloc (.map #[] 0)).heap.size = W2.heap.size + 1 := by simp
  rw [hz1] at hA0
  obtain ⟨mb, hmb⟩ : ∃ mb, W2.heap.size = mb := ⟨_, rfl⟩
  rw [hmb] at hown0 hA0 hgm ⊢
  obtain ⟨W3, hW3⟩ : ∃ W3, (W2.alloc (.map #[] 0)).alloc (.cells #[.int .u8 32, .int .u8 64, .int .u8 128] 5) = W3 := ⟨_, rfl⟩
  rw [hW3] at hown0 hA0 r1 hB1 ⊢
  obtain ⟨p1, hp1⟩ : ∃ p1, c.toNat / 32 % 2 * 32 = p1 := ⟨_, rfl⟩
  obtain ⟨p2, hp2⟩ : ∃ p2, c.toNat / 64 % 2 * 64 = p2 := ⟨_, rfl⟩
  obtain ⟨p3, hp3⟩ : ∃ p3, c.toNat / 128 * 128 = p3 := ⟨_, rfl⟩
  obtain ⟨b1, b2, b3⟩ := u8_and_bit c
  rw [hp1] at b1
  rw [hp2] at b2
  rw [hp3] at b3
  have q1 : IntKind.i64.wrap (p1 : Int) = p1 := by rw [IntKind.wrap_i64]; omega
  have q2 : IntKind.i64.wrap (p2 : Int) = p2 := by rw [IntKind.wrap_i64]; omega
  have q3 : IntKind.i64.wrap (p3 : Int) = p3 := by rw [IntKind.wrap_i64]; omega
  have c0 := hA0.cell 0
  have c1 := hA0.cell 1
  have c2 := hA0.cell 2
  simp at c0 c1 c2
  have hpb : p1 ≤ 255 ∧ p2 ≤ 255 ∧ p3 ≤ 255 := by omega
  replace hp1 := Lib.hid hp1
  replace hp2 := Lib.hid hp2
  replace hp3 := Lib.hid hp3
  replace r1 := Lib.hid r1
  replace hB1 := Lib.hid hB1
  replace hA0 := Lib.hid hA0
  clear hW3 D2 r0 hBx hz1
  have hK := int_keyed (P := Try.prog) Try.underlying5
  obtain ⟨w4, hu1, hown1, hgr1⟩ := hown0.update hK Try.underlying117 (by decide) (keyOf_int_mk Try.underlying5 (q := .u8) (a := 32) (by decide)) (plainElem_int (H := Unit) (P := Try.prog) Try.underlying3 (q := .i64) (a := (p1 : Int)) (WalkArith.wf_i64 (by omega)))
  obtain ⟨w5, hu2, hown2, hgr2⟩ := hown1.update hK Try.underlying117 (by decide) (keyOf_int_mk Try.underlying5 (q := .u8) (a := 64) (by decide)) (plainElem_int (H := Unit) (P := Try.prog) Try.underlying3 (q := .i64) (a := (p2 : Int)) (WalkArith.wf_i64 (by omega)))
  obtain ⟨w6, hu3, hown3, hgr3⟩ := hown2.update hK Try.underlying117 (by decide) (keyOf_int_mk Try.underlying5 (q := .u8) (a := 128) (by decide)) (plainElem_int (H := Unit) (P := Try.prog) Try.underlying3 (q := .i64) (a := (p3 : Int)) (WalkArith.wf_i64 (by omega)))
  have nm : some (mb + 1) ≠ some mb := by simp
  have ng : some g ≠ some mb := by simp; omega
  have A1 := hA0.out.grown hgr1 nm
  have A2 := A1.grown hgr2 nm
  have c3 := A1.cell 1
  have c4 := A2.cell 2
  simp at c3 c4
  have r2 := ((r1.out.grown hgr1 ng).grown hgr2 ng).grown hgr3 ng
  have hg3 : g ≤ W3.heap.size := Nat.le_of_lt r1.out.lt
  have hx1 := hB1.out.grown hgr1 hg3 (fun k e => by cases e; omega)
  have hg4 : g ≤ w4.heap.size := Nat.le_trans hg3 hgr1.size
  have hx2 := hx1.grown hgr2 hg4 (fun k e => by cases e; omega)
  have hg5 : g ≤ w5.heap.size := Nat.le_trans hg4 hgr2.size
  have hB2 : Below g w w6 := hx2.grown hgr3 hg5 (fun k e => by cases e; omega)
  clear hx1 hx2 hg3 hg4 hg5
  obtain ⟨hat1, hat2, hat3⟩ := fl3_at (p1 : Int) p2 p3
  have hlk : ∀ (W' : World), W'.ownsMap Try.prog 5 (plainElem (H := Unit) Try.prog 3) mb 3 (Fl3 p1 p2 p3) → ∀ (kk : Int) (vv : Int), (Lit.int .u8 kk).wf = true → (Fl3 p1 p2 p3).atKey (.int .u8 kk) (.lit (.int .i64 0)) = .lit (.int .i64 vv) → (Instr.lookup 117 (.map (some mb)) (.int .u8 kk) false).run Try.prog W' = .ok (.int .i64 vv) W' := fun W' hown3 kk vv hkk hvv => by
    obtain ⟨c', hrun, hat, _⟩ := World.ownsMap.lookup_int hown3 hK Try.underlying117 Try.underlying3 (zero_int _) (keyOf_int_mk Try.underlying5 (q := .u8) (a := kk) hkk)
    have : (DataW.lit (.int .i64 c') : DataW Unit) = .lit (.int .i64 vv) := hat.symm.trans hvv
    injection this with this
    injection this with _ this
    rw [← this]
    exact hrun
  have hL3 : ∀ (W' : World), W'.ownsMap Try.prog 5 (plainElem (H := Unit) Try.prog 3) mb 3 (Fl3 p1 p2 p3) → _ ∧ _ ∧ _ := fun W' hW => ⟨hlk W' hW 64 p2 (by decide) hat2, hlk W' hW 32 p1 (by decide) hat1, hlk W' hW 128 p3 (by decide) hat3⟩
  replace hL3 := Lib.hid hL3
  replace hown3 := Lib.hid hown3
  replace r2 := Lib.hid r2
  replace hB2 := Lib.hid hB2
  clear hlk hat1 hat2 hat3 hown0 hown1 hown2 hgr1 hgr2 hgr3 A1 A2 hK r1 hB1 hA0
  refine wp_loop_rounds 4 ?_
  rw [rounds_succ]
  go_wp2_with (fail)
  rw [rounds_succ]
  go_wp2_with (fail)
  rw [rounds_succ]
  go_wp2_with (fail)
  rw [rounds_succ]
  go_wp2_with (fail)
  clear c0 c1 c2 c3 c4
  have e0 : w6.cell? ⟨g, 0, none⟩ = some (.string ⟨#[]⟩) := r2.out.cell 0
  have e1 : w6.cell? ⟨g, 1, none⟩ = some (.int .i64 0) := r2.out.cell 1
  have e2 : w6.cell? ⟨g, 2, none⟩ = some (.int .i64 0) := r2.out.cell 2
  have e3 : w6.cell? ⟨g, 3, none⟩ = some (.bool false) := r2.out.cell 3
  have e4 : w6.cell? ⟨g, 4, none⟩ = some (.bool false) := r2.out.cell 4
  have e5 : w6.cell? ⟨g, 5, none⟩ = some (.bool false) := r2.out.cell 5
  have f0 := r2.out.free 0
  have f1 := r2.out.free 1
  have f2 := r2.out.free 2
  have f3 := r2.out.free 3
  have f4 := r2.out.free 4
  have f5 := r2.out.free 5
  have hS6 := hL3.out w6.drew hown3.out.drew
  replace hS6 := Lib.hid hS6
  refine wp_region_held_drew (S := fun W_ => (Instr.lookup 117 (.map (some mb)) (.int .u8 64) false).run Try.prog W_ = .ok (.int .i64 p2) W_ ∧ (Instr.lookup 117 (.map (some mb)) (.int .u8 32) false).run Try.prog W_ = .ok (.int .i64 p1) W_ ∧ (Instr.lookup 117 (.map (some mb)) (.int .u8 128) false).run Try.prog W_ = .ok (.int .i64 p3) W_) (by kernel_rfl) hS6.out (fun hHeld => ?_)
  refine wpAnyH_take (i := 0) (oi := { dst := some 100, op := _, type := _, pos := _, after := _, guard := _ }) (v := ?_) rfl (by kernel_rfl) (by kernel_rfl) (by kernel_rfl) (fun _ _ _ h => h) (Or.inl ⟨by rfl, ?_⟩) (by assumption) ?_
  rotate_left
  focus ((intro w hSw); (try dsimp only at hSw); go_simp; (try (with_reducible rfl)))
  try simp only [Act.put, List.setIfInBounds_toArray, List.set_cons_zero, List.set_cons_succ]
  refine wpAnyH_take (i := 1) (oi := { dst := some 101, op := _, type := _, pos := _, after := _, guard := _ }) (v := ?_) rfl (by kernel_rfl) (by kernel_rfl) (by kernel_rfl) (fun _ _ _ h => h) (Or.inl ⟨by rfl, ?_⟩) (by assumption) ?_
  rotate_left
  focus ((intro w hSw); (try dsimp only at hSw); go_simp; (try (with_reducible rfl)))
  try simp only [Act.put, List.setIfInBounds_toArray, List.set_cons_zero, List.set_cons_succ]
  refine wpAnyH_take (i := 2) (oi := { dst := some 102, op := _, type := _, pos := _, after := _, guard := _ }) (v := ?_) rfl (by kernel_rfl) (by kernel_rfl) (by kernel_rfl) (fun _ _ _ h => h) (Or.inl ⟨by rfl, ?_⟩) (by assumption) ?_
  rotate_left
  focus ((intro w hSw); (try dsimp only at hSw); go_simp; (try (with_reducible rfl)))
  try simp only [Act.put, List.setIfInBounds_toArray, List.set_cons_zero, List.set_cons_succ]
  refine wpAnyH_take (i := 3) (oi := { dst := some 103, op := _, type := _, pos := _, after := _, guard := _ }) (v := ?_) rfl (by kernel_rfl) (by kernel_rfl) (by kernel_rfl) (fun _ _ _ h => h) (Or.inl ⟨by rfl, ?_⟩) (by assumption) ?_
  rotate_left
  focus ((intro w hSw); (try dsimp only at hSw); go_simp; (try (with_reducible rfl)))
  try simp only [Act.put, List.setIfInBounds_toArray, List.set_cons_zero, List.set_cons_succ]
  refine wpAnyH_take (i := 4) (oi := { dst := some 104, op := _, type := _, pos := _, after := _, guard := _ }) (v := ?_) rfl (by kernel_rfl) (by kernel_rfl) (by kernel_rfl) (fun _ _ _ h => h) (Or.inl ⟨by rfl, ?_⟩) (by assumption) ?_
  rotate_left
  focus ((intro w hSw); (try dsimp only at hSw); go_simp; (try (with_reducible rfl)))
  try simp only [Act.put, List.setIfInBounds_toArray, List.set_cons_zero, List.set_cons_succ]
  refine wpAnyH_take (i := 5) (oi := { dst := some 105, op := _, type := _, pos := _, after := _, guard := _ }) (v := ?_) rfl (by kernel_rfl) (by kernel_rfl) (by kernel_rfl) (fun _ _ _ h => h) (Or.inl ⟨by rfl, ?_⟩) (by assumption) ?_
  rotate_left
  focus ((intro w hSw); (try dsimp only at hSw); go_simp; (try (with_reducible rfl)))
  try simp only [Act.put, List.setIfInBounds_toArray, List.set_cons_zero, List.set_cons_succ]
  refine wpAnyH_take (i := 7) (oi := { dst := some 107, op := _, type := _, pos := _, after := _, guard := _ }) (v := ?_) rfl (by kernel_rfl) (by kernel_rfl) (by kernel_rfl) (fun _ _ _ h => h) (Or.inl ⟨by rfl, ?_⟩) (by assumption) ?_
  rotate_left
  focus ((intro w hSw); (try dsimp only at hSw); go_simp; (try (with_reducible rfl)))
  try simp only [Act.put, List.setIfInBounds_toArray, List.set_cons_zero, List.set_cons_succ]
  refine wpAnyH_take (i := 8) (oi := { dst := some 108, op := _, type := _, pos := _, after := _, guard := _ }) (v := ?_) rfl (by kernel_rfl) (by kernel_rfl) (by kernel_rfl) (fun _ _ _ h => h) (Or.inl ⟨by rfl, ?_⟩) (by assumption) ?_
  rotate_left
  focus ((intro w hSw); (try dsimp only at hSw); go_simp; (try (with_reducible rfl)))
  try simp only [Act.put, List.setIfInBounds_toArray, List.set_cons_zero, List.set_cons_succ]
  refine wpAnyH_take (i := 9) (oi := { dst := some 109, op := _, type := _, pos := _, after := _, guard := _ }) (v := ?_) rfl (by kernel_rfl) (by kernel_rfl) (by kernel_rfl) (fun _ _ _ h => h) (Or.inl ⟨by rfl, ?_⟩) (by assumption) ?_
  rotate_left
  focus ((intro w hSw); (try dsimp only at hSw); go_simp; (try (with_reducible rfl)))
  try simp only [Act.put, List.setIfInBounds_toArray, List.set_cons_zero, List.set_cons_succ]
  refine wpAnyH_take (i := 10) (oi := { dst := some 110, op := _, type := _, pos := _, after := _, guard := _ }) (v := ?_) rfl (by kernel_rfl) (by kernel_rfl) (by kernel_rfl) (fun _ _ _ h => h) (Or.inl ⟨by rfl, ?_⟩) (by assumption) ?_
  rotate_left
  focus ((intro w hSw); (try dsimp only at hSw); go_simp; (try (with_reducible rfl)))
  try simp only [Act.put, List.setIfInBounds_toArray, List.set_cons_zero, List.set_cons_succ]
  refine wpAnyH_take (i := 11) (oi := { dst := some 111, op := _, type := _, pos := _, after := _, guard := _ }) (v := ?_) rfl (by kernel_rfl) (by kernel_rfl) (by kernel_rfl) (fun _ _ _ h => h) (Or.inl ⟨by rfl, ?_⟩) (by assumption) ?_
  rotate_left
  focus ((intro w hSw); (try dsimp only at hSw); go_simp; (try (with_reducible rfl)))
  try simp only [Act.put, List.setIfInBounds_toArray, List.set_cons_zero, List.set_cons_succ]
  refine wpAnyH_take (i := 12) (oi := { dst := some 112, op := _, type := _, pos := _, after := _, guard := _ }) (v := ?_) rfl (by kernel_rfl) (by kernel_rfl) (by kernel_rfl) (fun _ _ _ h => h) (Or.inl ⟨by rfl, ?_⟩) (by assumption) ?_
  rotate_left
  focus ((intro w hSw); (try dsimp only at hSw); go_simp; (try (with_reducible rfl)))
  try simp only [Act.put, List.setIfInBounds_toArray, List.set_cons_zero, List.set_cons_succ]
  refine wpAnyH_take (i := 13) (oi := { dst := some 113, op := _, type := _, pos := _, after := _, guard := _ }) (v := ?_) rfl (by kernel_rfl) (by kernel_rfl) (by kernel_rfl) (fun _ _ _ h => h) (Or.inl ⟨by rfl, ?_⟩) (by assumption) ?_
  rotate_left
  focus ((intro w hSw); (try dsimp only at hSw); go_simp; (try (with_reducible rfl)))
  try simp only [Act.put, List.setIfInBounds_toArray, List.set_cons_zero, List.set_cons_succ]
  refine wpAnyH_take (i := 14) (oi := { dst := some 114, op := _, type := _, pos := _, after := _, guard := _ }) (v := ?_) rfl (by kernel_rfl) (by kernel_rfl) (by kernel_rfl) (fun _ _ _ h => h) (Or.inl ⟨by rfl, ?_⟩) (by assumption) ?_
  rotate_left
  focus ((intro w hSw); (try dsimp only at hSw); go_simp; (try (with_reducible rfl)))
  try simp only [Act.put, List.setIfInBounds_toArray, List.set_cons_zero, List.set_cons_succ]
  refine wpAnyH_take (i := 15) (oi := { dst := some 115, op := _, type := _, pos := _, after := _, guard := _ }) (v := ?_) rfl (by kernel_rfl) (by kernel_rfl) (by kernel_rfl) (fun _ _ _ h => h) (Or.inl ⟨by rfl, ?_⟩) (by assumption) ?_
  rotate_left
  focus ((intro w hSw); (try dsimp only at hSw); go_simp; (try (with_reducible rfl)))
  try simp only [Act.put, List.setIfInBounds_toArray, List.set_cons_zero, List.set_cons_succ]
  refine wpAnyH_take (i := 17) (oi := { dst := some 117, op := _, type := _, pos := _, after := _, guard := _ }) (v := ?_) rfl (by kernel_rfl) (by kernel_rfl) (by kernel_rfl) (fun _ _ _ h => h) (Or.inl ⟨by rfl, ?_⟩) (by assumption) ?_
  rotate_left
  focus ((intro w hSw); (try dsimp only at hSw); go_simp; (try (with_reducible rfl)))
  try simp only [Act.put, List.setIfInBounds_toArray, List.set_cons_zero, List.set_cons_succ]
  refine wpAnyH_ready (rs := [6]) (by kernel_rfl) (by simp) ?_
  refine AllReadyH.cons (o := { dst := some 106, op := _, type := _, pos := _, after := _, guard := _ }) rfl (fun K hK => ?_) AllReadyH.nil
  go_simp
  refine Calls.mono (hU.out _) ?_
  rintro e w7 ⟨rfl, hw7⟩
  subst hw7
  try simp only
  refine hK _ _ hS6.out (fun hHeld => ?_)
  clear hK K
  try simp only [Act.put, List.setIfInBounds_toArray, List.set_cons_zero, List.set_cons_succ]
  refine wpAnyH_take (i := 16) (oi := { dst := some 116, op := _, type := _, pos := _, after := _, guard := _ }) (v := ?_) rfl (by kernel_rfl) (by kernel_rfl) (by kernel_rfl) (fun _ _ _ h => h) (Or.inl ⟨by rfl, ?_⟩) (by assumption) ?_
  rotate_left
  focus ((intro w hSw); (try dsimp only at hSw); go_simp; (try (with_reducible rfl)))
  try simp only [Act.put, List.setIfInBounds_toArray, List.set_cons_zero, List.set_cons_succ]
  refine wpAnyH_ready (rs := [18]) (by kernel_rfl) (by simp) ?_
  refine AllReadyH.cons (o := { dst := none, op := _, type := _, pos := _, after := _, guard := _ }) rfl (fun K hK => ?_) AllReadyH.nil
  go_simp
  obtain ⟨X, hX⟩ : ∃ X : Wd, X = ⟨⟨(rowL B (a + 9) m).toArray⟩, a, uz, ((p2 : Int) != 0), ((p1 : Int) != 0), ((p3 : Int) != 0)⟩ := ⟨_, rfl⟩
  have rZ : Bk (set6 w6 g X).drew g 34 (wdC X).toArray := (set6_bk r2.out).draw
  have hBZ : Below g w (set6 w6 g X).drew := (set6_below hB2.out (Nat.le_refl _)).drew
  have hOZ : w6.grownBy (set6 w6 g X) (some g) := by
    have hO := ((((((Only.refl g w6).put 0 (.string X.name)).put 1 (.int .i64 X.hd)).put 2 (.int .i64 X.xt)).put 3 (.bool X.imm)).put 4 (.bool X.hid)).put 5 (.bool X.inl)
    exact ⟨hO.os, hO.tape, hO.output, hO.size, fun k hk hne => hO.block k hk (fun e => hne (by rw [e]))⟩
  have hSZ := hL3.out (set6 w6 g X).drew (hown3.out.kept hOZ (fun e => ng e.symm)).drew
  unfold set6 at rZ hBZ hSZ
  have hX0 := hX
  rw [hX] at rZ hBZ hSZ
  dsimp only at rZ hBZ hSZ
  have hXe : X = wdB B a (B.getD (a + 8) 0) := by
    rw [hX, hq, hc]
    unfold wdB
    rw [hm, hz, huz]
    rw [bit_flag _ _ _ (bits_le c).2.1 (by decide) hp1.out, bit_flag _ _ _ (bits_le c).1 (by decide) hp2.out, bit_flag _ _ _ (bits_le c).2.2 (by decide) hp3.out]
  refine hK _ _ hSZ (fun hHeld => ?_)
  clear hK K
  try simp only [Act.put, List.setIfInBounds_toArray, List.set_cons_zero, List.set_cons_succ]
  refine wpAnyH_take (i := 19) (oi := { dst := some 5, op := _, type := _, pos := _, after := _, guard := _ }) (v := ?_) rfl (by kernel_rfl) (by kernel_rfl) (by kernel_rfl) (fun _ _ _ h => h) (Or.inl ⟨by rfl, ?_⟩) (by assumption) ?_
  rotate_left
  focus ((intro w hSw); (try dsimp only at hSw); go_simp; (try (with_reducible rfl)))
  try simp only [Act.put, List.setIfInBounds_toArray, List.set_cons_zero, List.set_cons_succ]
  refine wpAnyH_take (i := 20) (oi := { dst := some 6, op := _, type := _, pos := _, after := _, guard := _ }) (v := ?_) rfl (by kernel_rfl) (by kernel_rfl) (by kernel_rfl) (fun _ _ _ h => h) (Or.inl ⟨by rfl, ?_⟩) (by assumption) ?_
  rotate_left
  focus ((intro w hSw); (try dsimp only at hSw); go_simp; (try (with_reducible rfl)))
  try simp only [Act.put, List.setIfInBounds_toArray, List.set_cons_zero, List.set_cons_succ]
  clear hHeld
  refine wpAnyH_done (by kernel_rfl) ?_ _
  clear e0 e1 e2 e3 e4 e5 f0 f1 f2 f3 f4 f5 hSZ
  obtain ⟨Z, hZ⟩ : ∃ Z, ((((((w6.setCell ⟨g, 0, none⟩ (.string ⟨(rowL B (a + 9) m).toArray⟩)).setCell ⟨g, 1, none⟩ (.int .i64 (a : Int))).setCell ⟨g, 2, none⟩ (.int .i64 (uz : Int))).setCell ⟨g, 3, none⟩ (.bool ((p2 : Int) != 0))).setCell ⟨g, 4, none⟩ (.bool ((p1 : Int) != 0))).setCell ⟨g, 5, none⟩ (.bool ((p3 : Int) != 0))).drew = Z := ⟨_, rfl⟩
  rw [hZ] at rZ hBZ ⊢
  rw [← hX] at rZ
  clear hZ hOZ
  rw [hq, hc] at hXe
  obtain ⟨xn, xh, xx, xi, xd, xl⟩ := X
  clear hX hX0
  replace hXe := Lib.hid hXe
  replace hq := Lib.hid hq
  replace hc := Lib.hid hc
  replace hv := Lib.hid hv
  have e0 := rZ.cell 0
  have e1 := rZ.cell 1
  have e2 := rZ.cell 2
  have e3 := rZ.cell 3
  have e4 := rZ.cell 4
  have e5 := rZ.cell 5
  simp [wdC] at e0 e1 e2 e3 e4 e5
  replace rZ := Lib.hid rZ
  replace hBZ := Lib.hid hBZ
  clear hHeld hmm y8 e9 e10 e11 e12 e13 e14 e15 j1 b1 b2 b3 q1 q2 q3
  go_wp2_with (fail)
  refine bodyPost_ret (by simp [results, Try.results62, go_sem, *]; rfl) rfl ?_
  exact ⟨by rw [hq.out, hc.out, ← hXe.out, hv.out]; rfl, by first | exact hBZ.out | (rw [hg]; exact hBZ.out)⟩
/-- head: what the plain law says -/
theorem head_any (D : Dc w d p b L r f y B o s h l) (at_ : Int) : Calls Try.prog 62 #[.pointer (some ⟨d, 0, none⟩), .int .i64 at_] w fun e w' => (match headP B f y at_ with | none => e = .returned (.tuple #[wdV wd0, .int .i64 0, .bool false]) | some (x, nx) => e = .returned (.tuple #[wdV x, .int .i64 nx, .bool true])) ∧ Below w.heap.size w w' := by
  unfold headP
  by_cases h8 : at_ % 8 = 0
  · by_cases hf : (f : Int) ≤ at_
    · obtain ⟨a, rfl⟩ : ∃ a : Nat, at_ = a := ⟨at_.toNat, by omega⟩
      by_cases hy : (a : Int) + 16 ≤ y
      · rw [if_pos ⟨h8, hf, hy⟩]
        simp only [Int.toNat_natCast]
        by_cases hm : (B.getD (a + 8) 0).toNat % 32 ≠ 0 ∧ upN (a + 9 + (B.getD (a + 8) 0).toNat % 32) ≤ y
        · rw [if_pos hm]
          exact head_in_yes D a h8 (by omega) (by omega) hm.1 hm.2
        · rw [if_neg hm]
          exact head_in_no D a h8 (by omega) (by omega) (by omega)
      · rw [if_neg (fun h => hy h.2.2)]
        exact head_hi D a h8 (by omega) (by omega)
    · rw [if_neg (fun h => hf h.2.1)]
      exact head_lo D at_ h8 (by omega)
  · rw [if_neg (fun h => h8 h.1)]
    exact head_al D at_ h8
end
end Go.Proofs.Ytoaiiimnfgbcaaa
