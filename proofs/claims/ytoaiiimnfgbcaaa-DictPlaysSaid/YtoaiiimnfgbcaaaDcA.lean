import Derived.Test.YtoaiiimnfgbcaaaImF
import Derived.Test.YtoaiiimnfgbcaaaImP
import Derived.Laws.BitsAllLaws
namespace Go.Proofs.Ytoaiiimnfgbcaaa
open Go.RowKit
set_option linter.unusedVariables false
set_option linter.unusedSimpArgs false
/-! a wordlist in memory: its image, its region (f: the first address that may be used, y: its end), where it stands -/
structure Onb (b d : Nat) (W W' : World) : Prop where
  os : W'.os = W.os
  tape : W'.tape = W.tape
  output : W'.output = W.output
  size : W.heap.size ≤ W'.heap.size
  block : ∀ k, k < W.heap.size → k ≠ b → k ≠ d → W'.heap[k]? = W.heap[k]?
section
variable {b d : Nat} {x y z : World}
theorem Onb.refl (b d : Nat) (x : World) : Onb b d x x := ⟨rfl, rfl, rfl, Nat.le_refl _, fun _ _ _ _ => rfl⟩
theorem Onb.trans (h : Onb b d x y) (k : Onb b d y z) : Onb b d x z :=
  ⟨k.os.trans h.os, k.tape.trans h.tape, k.output.trans h.output, Nat.le_trans h.size k.size, fun i hi h1 h2 => (k.block i (Nat.lt_of_lt_of_le hi h.size) h1 h2).trans (h.block i hi h1 h2)⟩
theorem Onb.draws (h : Onb b d x y) (n : Nat) : Onb b d x (y.drewN n) := ⟨h.os, h.tape, h.output, h.size, h.block⟩
theorem Onb.draw (h : Onb b d x y) : Onb b d x y.drew := ⟨h.os, h.tape, h.output, h.size, h.block⟩
theorem Onb.past (h : Onb b d x y) (o : Obj) : Onb b d x (y.alloc o) :=
  ⟨h.os, h.tape, h.output, Nat.le_trans h.size (by simp), fun k hk h1 h2 => (Below.heap_alloc y o k (Nat.lt_of_lt_of_le hk h.size)).trans (h.block k hk h1 h2)⟩
theorem Onb.ofb (h : Only b x y) : Onb b d x y := ⟨h.os, h.tape, h.output, h.size, fun k hk h1 _ => h.block k hk h1⟩
theorem Onb.ofd (h : Only d x y) : Onb b d x y := ⟨h.os, h.tape, h.output, h.size, fun k hk _ h2 => h.block k hk h2⟩
theorem Onb.ofbel (h : Below x.heap.size x y) : Onb b d x y := ⟨h.os, h.tape, h.output, h.size, fun k hk _ _ => h.block k hk⟩
theorem Onb.putd (h : Onb b d x y) (i : Nat) (u : Value) : Onb b d x (y.setCell ⟨d, i, none⟩ u) := h.trans (Onb.ofd ((Only.refl d y).put i u))
theorem Onb.bk {k : Nat} {t : TypeId} {vs : Array Value} (h : Onb b d x y) (hk : Bk x k t vs) (h1 : k ≠ b) (h2 : k ≠ d) : Bk y k t vs := (h.block k hk.lt h1 h2).trans hk
theorem Onb.below {B : Nat} (h : Onb b d x y) (h1 : B ≤ b) (h2 : B ≤ d) (hB : B ≤ x.heap.size) : Below B x y := ⟨h.os, h.tape, h.output, h.size, fun k hk => h.block k (by omega) (by omega) (by omega)⟩
end
def dcV (p f y h l : Nat) : Array Value := #[.pointer (some ⟨p, 0, none⟩), .int .i64 f, .int .i64 y, .int .i64 h, .int .i64 l]
structure Dc (W : World) (d p b : Nat) (L : Lay) (r f y : Nat) (B : List UInt8) (o s : Bool) (h l : Nat) : Prop where
  im : Im W p b L B o s
  bk : Bk W d 82 (dcV p f y h l)
  rr : r = 1 ∨ r = 3
  fx : f = L.beg r + 8
  yx : y = L.beg (r + 1)
  lo : f ≤ h
  hi : h ≤ y
  la : l = 0 ∨ f ≤ l ∧ l < y ∧ l % 8 = 0
/-- may it not be written? -/
def shut (r : Nat) (s : Bool) : Bool := decide (r = 1) && s
theorem fy_ok {L : Lay} (h : L.ok) {r f y : Nat} (rr : r = 1 ∨ r = 3) (fx : f = L.beg r + 8) (yx : y = L.beg (r + 1)) : f % 8 = 0 ∧ y % 8 = 0 ∧ 8 ≤ f ∧ f + 16 ≤ y ∧ y ≤ L.b6 ∧ y ≤ 143360 := by
  unfold Lay.ok at h
  rcases rr with rfl | rfl <;> simp only [Lay.beg] at fx yx <;> subst fx <;> subst yx <;> unfold Lay.b6 Lay.b5 Lay.b4 Lay.b3 Lay.b2 <;> omega
section
variable {W W' : World} {d p b r f y h l : Nat} {L : Lay} {B : List UInt8} {o s : Bool}
theorem Dc.ok (D : Dc W d p b L r f y B o s h l) : f % 8 = 0 ∧ y % 8 = 0 ∧ 8 ≤ f ∧ f + 16 ≤ y ∧ y ≤ L.b6 ∧ y ≤ 143360 := fy_ok D.im.ok D.rr D.fx D.yx
theorem Dc.ne (D : Dc W d p b L r f y B o s h l) : d ≠ b := D.bk.ne D.im.by_ (by decide)
theorem Dc.nep (D : Dc W d p b L r f y B o s h l) : d ≠ p := D.bk.ne D.im.st (by decide)
theorem Dc.bel (D : Dc W d p b L r f y B o s h l) (hb : Below W.heap.size W W') : Dc W' d p b L r f y B o s h l := ⟨D.im.bel hb, D.bk.kept hb D.bk.lt, D.rr, D.fx, D.yx, D.lo, D.hi, D.la⟩
theorem Dc.draws (D : Dc W d p b L r f y B o s h l) (n : Nat) : Dc (W.drewN n) d p b L r f y B o s h l := ⟨D.im.draws n, D.bk.draws n, D.rr, D.fx, D.yx, D.lo, D.hi, D.la⟩
theorem Dc.draw (D : Dc W d p b L r f y B o s h l) : Dc W.drew d p b L r f y B o s h l := D.draws 1
theorem Dc.turn {B' : List UInt8} (D : Dc W d p b L r f y B o s h l) (hI : Im W' p b L B' o s) (hO : Only b W W') : Dc W' d p b L r f y B' o s h l := ⟨hI, hO.bk D.bk D.ne, D.rr, D.fx, D.yx, D.lo, D.hi, D.la⟩
theorem Dc.put3 (D : Dc W d p b L r f y B o s h l) (h' : Nat) (h1 : f ≤ h') (h2 : h' ≤ y) : Dc (W.setCell ⟨d, 3, none⟩ (.int .i64 h')) d p b L r f y B o s h' l :=
  ⟨D.im.far (q := ⟨d, 3, none⟩) D.nep.symm D.ne.symm _, D.bk.put 3 _, D.rr, D.fx, D.yx, h1, h2, D.la⟩
theorem Dc.put4 (D : Dc W d p b L r f y B o s h l) (l' : Nat) (h1 : l' = 0 ∨ f ≤ l' ∧ l' < y ∧ l' % 8 = 0) : Dc (W.setCell ⟨d, 4, none⟩ (.int .i64 l')) d p b L r f y B o s h l' :=
  ⟨D.im.far (q := ⟨d, 4, none⟩) D.nep.symm D.ne.symm _, D.bk.put 4 _, D.rr, D.fx, D.yx, D.lo, D.hi, h1⟩
theorem Dc.c0 (D : Dc W d p b L r f y B o s h l) : W.cell? ⟨d, 0, none⟩ = some (.pointer (some ⟨p, 0, none⟩)) := D.bk.cell 0
theorem Dc.c1 (D : Dc W d p b L r f y B o s h l) : W.cell? ⟨d, 1, none⟩ = some (.int .i64 f) := D.bk.cell 1
theorem Dc.c2 (D : Dc W d p b L r f y B o s h l) : W.cell? ⟨d, 2, none⟩ = some (.int .i64 y) := D.bk.cell 2
theorem Dc.c3 (D : Dc W d p b L r f y B o s h l) : W.cell? ⟨d, 3, none⟩ = some (.int .i64 h) := D.bk.cell 3
theorem Dc.c4 (D : Dc W d p b L r f y B o s h l) : W.cell? ⟨d, 4, none⟩ = some (.int .i64 l) := D.bk.cell 4
theorem Dc.wt (D : Dc W d p b L r f y B o s h l) (hc : shut r s = false) (a : Nat) (n : Int) (h1 : f - 8 ≤ a) (h2 : a < y) (h3 : (a : Int) + n ≤ y) (rt : Int) : rowOk L o s 0 a n rt := by
  refine row_in D.im.ok r a (by have := D.rr; omega) (by have := D.rr; omega) (by have := D.fx; omega) (by have := D.yx; omega) (by have := D.yx; omega) (.inl ?_)
  rcases D.rr with h | h <;> subst h
  · have : s = false := by simpa [shut] using hc
    subst this
    exact may_sys o 1 (by decide) (by decide)
  · exact may_stu o s 0 (.inl rfl)
theorem Dc.nwt (D : Dc W d p b L r f y B o s h l) (hc : shut r s = true) (a : Nat) (n : Int) (h1 : f - 8 ≤ a) (h2 : a < y) : ¬ rowOk L o s 0 a n 2 := by
  refine row_not D.im.ok r a (by have := D.rr; omega) (by have := D.rr; omega) (by have := D.fx; omega) (by have := D.yx; omega) ?_
  have hs : r = 1 ∧ s = true := by simpa [shut] using hc
  obtain ⟨rfl, rfl⟩ := hs
  unfold mayN
  simp
theorem Dc.nwt8 (D : Dc W d p b L r f y B o s h l) (hc : shut r s = true) (a : Nat) (h1 : f - 8 ≤ a) (h2 : a < y) : ¬ rowOk L o s 0 a 8 2 := D.nwt hc a 8 h1 h2
theorem Dc.rd (D : Dc W d p b L r f y B o s h l) (a : Nat) (n : Int) (h1 : f - 8 ≤ a) (h2 : a < y) (h3 : (a : Int) + n ≤ y) : rowOk L o s 0 a n 1 := by
  refine row_in D.im.ok r a (by have := D.rr; omega) (by have := D.rr; omega) (by have := D.fx; omega) (by have := D.yx; omega) (by have := D.yx; omega) ?_
  rcases D.rr with h | h <;> subst h
  · cases s
    · exact .inl (may_sys o 1 (by decide) (by decide))
    · exact .inr ⟨by simp [mayN], rfl⟩
  · exact .inl (may_stu o s 0 (.inl rfl))
end
def upN (n : Nat) : Nat := (n + 7) / 8 * 8
theorem upN_le (n : Nat) : n ≤ upN n ∧ upN n ≤ n + 7 ∧ upN n % 8 = 0 := by unfold upN; omega
theorem upN_even (n : Nat) (h : n % 8 = 0) : upN n = n := by unfold upN; omega
theorem i64_up (n : Nat) (h : n ≤ 200000) : bits BinOp.andNot IntKind.i64 ((n : Int) + 7) 7 = (upN n : Int) := by
  have h7 : (~~~ BitVec.ofInt 64 7).toNat = 18446744073709551608 := by decide
  have e : bits BinOp.andNot IntKind.i64 ((n : Int) + 7) 7 = IntKind.i64.wrap ((BitVec.ofInt 64 ((n : Int) + 7) &&& ~~~ BitVec.ofInt 64 7).toNat : Int) := rfl
  rw [e, BitVec.toNat_and, h7, nat_hi64_3, BitVec.toNat_ofInt, IntKind.wrap_i64]
  unfold upN
  omega
theorem up_any (n : Nat) (h : n ≤ 200000) (w : World) : Calls Try.prog 33 #[.int .i64 (n : Int)] w fun e w' => e = .returned (.int .i64 (upN n)) ∧ w' = w := by
  have h1 := i64_up n h
  have h2 : IntKind.i64.wrap ((n : Int) + 7) = n + 7 := by rw [IntKind.wrap_i64]; omega
  go_enter Try.func33, Try.ntmps33
  go_wp2_with (fail)
  go_returns
  exact ⟨rfl, rfl⟩
section
variable {w : World} {d p b r f y h l : Nat} {L : Lay} {B : List UInt8} {o s : Bool}
theorem here_any (D : Dc w d p b L r f y B o s h l) : Calls Try.prog 12 #[.pointer (some ⟨d, 0, none⟩)] w fun e w' => e = .returned (.int .i64 h) ∧ w' = w := by
  have c3 := D.c3
  clear D
  go_enter Try.func12, Try.ntmps12
  go_wp2_with (fail)
  go_returns
  exact ⟨rfl, rfl⟩
theorem latest_any (D : Dc w d p b L r f y B o s h l) : Calls Try.prog 13 #[.pointer (some ⟨d, 0, none⟩)] w fun e w' => e = .returned (.int .i64 l) ∧ w' = w := by
  have c3 := D.c4
  clear D
  go_enter Try.func13, Try.ntmps13
  go_wp2_with (fail)
  go_returns
  exact ⟨rfl, rfl⟩
theorem mark_any (D : Dc w d p b L r f y B o s h l) : Calls Try.prog 19 #[.pointer (some ⟨d, 0, none⟩)] w fun e w' => e = .returned (.tuple #[.int .i64 h, .int .i64 l]) ∧ ∃ n, w' = w.drewN n := by
  have c3 := D.c3
  have c4 := D.c4
  clear D
  go_enter Try.func19, Try.ntmps19
  go_wp2_with (fail)
  go_quiet (fail)
  go_wp2_with (fail)
  go_returns
  exact ⟨rfl, _, rfl⟩
/-! New -/
theorem dnew_bad (r : Int) (V : Value) (hr : r ≠ 1 ∧ r ≠ 3) : Calls Try.prog 10 #[V, .int .i64 r] w fun e w' => e = .returned (.tuple #[.pointer none, .int .i64 1]) ∧ w' = w := by
  have h1 : (r != 1) = true := by simpa using hr.1
  have h2 : (r != 3) = true := by simpa using hr.2
  clear hr
  go_enter Try.func10, Try.ntmps10
  go_wp2_with (fail)
  go_returns
  exact ⟨rfl, rfl⟩
set_option maxHeartbeats 1000000 in
theorem dnew_any (I : Im w p b L B o s) (r : Nat) (rr : r = 1 ∨ r = 3) : Calls Try.prog 10 #[.pointer (some ⟨p, 0, none⟩), .int .i64 (r : Int)] w fun e w' => ∃ d, w.heap.size ≤ d ∧ e = .returned (.tuple #[.pointer (some ⟨d, 0, none⟩), .int .i64 0]) ∧ Dc w' d p b L r (L.beg r + 8) (L.beg (r + 1)) B o s (L.beg r + 8) 0 ∧ Below w.heap.size w w' := by
  have hS := span_any p b L B o s r w I
  have hft := from_of L r (by omega) (by omega)
  rw [hft.1, hft.2] at hS
  have hok := fy_ok I.ok rr rfl rfl
  obtain ⟨f0, hf0⟩ : ∃ f0, L.beg r = f0 := ⟨_, rfl⟩
  obtain ⟨y, hy⟩ : ∃ y, L.beg (r + 1) = y := ⟨_, rfl⟩
  rw [hf0, hy] at hS hok ⊢
  have e1 : IntKind.i64.wrap ((f0 : Int) + 8) = ((f0 + 8 : Nat) : Int) := by rw [IntKind.wrap_i64]; omega
  have t1 : ((r : Int) != 1) = true ∨ ((r : Int) != 1) = false := by cases ((r : Int) != 1) <;> simp
  have t2 : ((r : Int) != 1 ∧ (r : Int) != 3) → False := by rcases rr with rfl | rfl <;> simp
  replace hS := Lib.hid hS
  replace I := Lib.hid I
  replace hf0 := Lib.hid hf0
  replace hy := Lib.hid hy
  replace hok := Lib.hid hok
  have key : ∀ n, ∃ d, w.heap.size ≤ d ∧ (Ending.returned (.tuple #[.pointer (some ⟨w.heap.size, 0, none⟩), .int .i64 0]) : Ending) = .returned (.tuple #[.pointer (some ⟨d, 0, none⟩), .int .i64 0]) ∧ Dc ((w.drewN n).alloc (.cells #[.pointer (some ⟨p, 0, none⟩), .int .i64 ((f0 + 8 : Nat) : Int), .int .i64 y, .int .i64 ((f0 + 8 : Nat) : Int), .int .i64 0] 82)) d p b L r (f0 + 8) y B o s (f0 + 8) 0 ∧ Below w.heap.size w ((w.drewN n).alloc (.cells #[.pointer (some ⟨p, 0, none⟩), .int .i64 ((f0 + 8 : Nat) : Int), .int .i64 y, .int .i64 ((f0 + 8 : Nat) : Int), .int .i64 0] 82)) := fun n => by
    refine ⟨w.heap.size, Nat.le_refl _, rfl, ⟨(I.out.draws n).past _, Bk.fresh (w.drewN n) _ _, rr, by rw [hf0.out], by rw [hy.out], Nat.le_refl _, by have := hok.out; omega, .inl rfl⟩, ?_⟩
    exact Below.alloc (show Below w.heap.size w (w.drewN n) from ⟨rfl, rfl, rfl, Nat.le_refl _, fun _ _ => rfl⟩) (Nat.le_refl _) _
  replace key := Lib.hid key
  rcases rr with rfl | rfl <;> clear t1 t2
  · go_enter Try.func10, Try.ntmps10
    go_wp2_with (fail)
    refine hS.out.mono ?_
    rintro e w1 ⟨rfl, n, rfl⟩
    go_wp2_with (fail)
    go_returns
    exact key.out n
  · go_enter Try.func10, Try.ntmps10
    go_wp2_with (fail)
    refine hS.out.mono ?_
    rintro e w1 ⟨rfl, n, rfl⟩
    go_wp2_with (fail)
    go_returns
    exact key.out n
end
end Go.Proofs.Ytoaiiimnfgbcaaa
