import Derived.Test.YtoaiiimnfgbcaaaOwn
import Derived.Deep.RegionHeld3
namespace Go.Proofs.Ytoaiiimnfgbcaaa
open Go.RowKit
set_option linter.unusedVariables false
set_option linter.unusedSimpArgs false
/-! an image in memory: its layout, where regions begin, its bytes, whether it is open, sealed -/
structure Lay where
  k : Nat
  s : Nat
  u : Nat
  d : Nat
  r : Nat
namespace Lay
def ok (L : Lay) : Prop := (16384 ≤ L.k ∧ L.k ≤ 65536 ∧ L.k % 8 = 0) ∧ (L.s ≤ 4096 ∧ L.s % 8 = 0) ∧ (256 ≤ L.u ∧ L.u ≤ 65536 ∧ L.u % 8 = 0) ∧ (64 ≤ L.d ∧ L.d ≤ 4096 ∧ L.d % 8 = 0) ∧ (64 ≤ L.r ∧ L.r ≤ 4096 ∧ L.r % 8 = 0)
def b2 (L : Lay) : Nat := L.k
def b3 (L : Lay) : Nat := L.b2 + L.s
def b4 (L : Lay) : Nat := L.b3 + L.u
def b5 (L : Lay) : Nat := L.b4 + L.d
def b6 (L : Lay) : Nat := L.b5 + L.r
/-- where region i begins -/
def beg (L : Lay) : Nat → Nat
  | 0 => 0
  | 1 => 0
  | 2 => L.b2
  | 3 => L.b3
  | 4 => L.b4
  | 5 => L.b5
  | _ => L.b6
theorem mono {L : Lay} (h : L.ok) : 16384 ≤ L.b2 ∧ L.b2 ≤ L.b3 ∧ L.b3 < L.b4 ∧ L.b4 < L.b5 ∧ L.b5 < L.b6 ∧ L.b6 ≤ 143360 := by
  unfold ok at h
  unfold b6 b5 b4 b3 b2
  omega
theorem even {L : Lay} (h : L.ok) : L.b2 % 8 = 0 ∧ L.b3 % 8 = 0 ∧ L.b4 % 8 = 0 ∧ L.b5 % 8 = 0 ∧ L.b6 % 8 = 0 := by
  unfold ok at h
  unfold b6 b5 b4 b3 b2
  omega
/-- which region an address lies in -/
def reg (L : Lay) (a : Int) : Nat := if a < 0 then 0 else if a < L.b2 then 1 else if a < L.b3 then 2 else if a < L.b4 then 3 else if a < L.b5 then 4 else if a < L.b6 then 5 else 0
/-- where a region begins and ends; none: nowhere -/
def from_ (L : Lay) (r : Int) : Nat := if r < 1 then 0 else if 5 < r then 0 else L.beg r.toNat
def to_ (L : Lay) (r : Int) : Nat := if r < 1 then 0 else if 5 < r then 0 else L.beg (r.toNat + 1)
theorem from_le {L : Lay} (h : L.ok) (r : Int) : L.from_ r ≤ L.to_ r ∧ L.to_ r ≤ L.b6 := by
  have m := mono h
  unfold from_ to_
  by_cases h1 : r < 1
  · simp [h1]
  · by_cases h2 : 5 < r
    · simp [h1, h2]
    · simp only [if_neg h1, if_neg h2]
      rcases (by omega : r = 1 ∨ r = 2 ∨ r = 3 ∨ r = 4 ∨ r = 5) with rfl | rfl | rfl | rfl | rfl <;> simp [beg] <;> omega
end Lay
/-- the rights of a mode in a region -/
def mayN (o s : Bool) (mode : Int) (r : Int) : Nat :=
  if r < 1 ∨ 5 < r then 0
  else if mode = 0 ∧ r = 1 ∧ s = true then 1
  else if mode = 0 ∨ r = 3 ∧ (mode = 1 ∨ mode = 2) then 3
  else if mode = 2 ∧ r ≤ 2 ∨ mode = 1 ∧ (r = 1 ∨ r = 2 ∧ o = true) then 1
  else 0
/-- may a row be read (1), written (2)? -/
def rowOk (L : Lay) (o s : Bool) (mode addr n right : Int) : Prop := L.reg addr ≠ 0 ∧ n ≤ (L.beg (L.reg addr + 1) : Int) - addr ∧ (mayN o s mode (L.reg addr) = 3 ∨ mayN o s mode (L.reg addr) = 1 ∧ right = 1)
instance (L : Lay) (o s : Bool) (mode addr n right : Int) : Decidable (rowOk L o s mode addr n right) := by unfold rowOk; exact inferInstance
def imgV (L : Lay) (b : Nat) (o s : Bool) : Array Value := #[.int .i64 L.k, .int .i64 L.s, .int .i64 L.u, .int .i64 L.d, .int .i64 L.r, .int .i64 0, .int .i64 0, .int .i64 L.b2, .int .i64 L.b3, .int .i64 L.b4, .int .i64 L.b5, .int .i64 L.b6, .slice (some ⟨b, 0, none⟩) L.b6 L.b6, .bool o, .bool s]
structure Im (W : World) (p b : Nat) (L : Lay) (B : List UInt8) (o s : Bool) : Prop where
  ok : L.ok
  st : Bk W p 79 (imgV L b o s)
  by_ : Bk W b 5 (u8s B).toArray
  len : B.length = L.b6
section
variable {W W' : World} {p b : Nat} {L : Lay} {B : List UInt8} {o s : Bool}
theorem Im.ne (h : Im W p b L B o s) : p ≠ b := h.st.ne h.by_ (by decide)
theorem Im.draws (h : Im W p b L B o s) (n : Nat) : Im (W.drewN n) p b L B o s := ⟨h.ok, h.st.draws n, h.by_.draws n, h.len⟩
theorem Im.past (h : Im W p b L B o s) (x : Obj) : Im (W.alloc x) p b L B o s := ⟨h.ok, h.st.past x, h.by_.past x, h.len⟩
theorem Im.kept {K : Nat} (h : Im W p b L B o s) (hb : Below K W W') (h1 : p < K) (h2 : b < K) : Im W' p b L B o s := ⟨h.ok, h.st.kept hb h1, h.by_.kept hb h2, h.len⟩
theorem Im.bel (h : Im W p b L B o s) (hb : Below W.heap.size W W') : Im W' p b L B o s := h.kept hb h.st.lt h.by_.lt
theorem Im.only (h : Im W p b L B o s) {g : Nat} (hb : Only g W W') (h1 : p ≠ g) (h2 : b ≠ g) : Im W' p b L B o s := ⟨h.ok, hb.bk h.st h1, hb.bk h.by_ h2, h.len⟩
theorem Im.far (h : Im W p b L B o s) {q : Addr} (h1 : p ≠ q.block) (h2 : b ≠ q.block) (v : Value) : Im (W.setCell q v) p b L B o s := ⟨h.ok, h.st.other h1 v, h.by_.other h2 v, h.len⟩
theorem Im.c0 (h : Im W p b L B o s) : W.cell? ⟨p, 0, none⟩ = some (.int .i64 L.k) := h.st.cell 0
theorem Im.c1 (h : Im W p b L B o s) : W.cell? ⟨p, 1, none⟩ = some (.int .i64 L.s) := h.st.cell 1
theorem Im.c2 (h : Im W p b L B o s) : W.cell? ⟨p, 2, none⟩ = some (.int .i64 L.u) := h.st.cell 2
theorem Im.c3 (h : Im W p b L B o s) : W.cell? ⟨p, 3, none⟩ = some (.int .i64 L.d) := h.st.cell 3
theorem Im.c4 (h : Im W p b L B o s) : W.cell? ⟨p, 4, none⟩ = some (.int .i64 L.r) := h.st.cell 4
theorem Im.c6 (h : Im W p b L B o s) : W.cell? ⟨p, 6, none⟩ = some (.int .i64 0) := h.st.cell 6
theorem Im.c7 (h : Im W p b L B o s) : W.cell? ⟨p, 7, none⟩ = some (.int .i64 L.b2) := h.st.cell 7
theorem Im.c8 (h : Im W p b L B o s) : W.cell? ⟨p, 8, none⟩ = some (.int .i64 L.b3) := h.st.cell 8
theorem Im.c9 (h : Im W p b L B o s) : W.cell? ⟨p, 9, none⟩ = some (.int .i64 L.b4) := h.st.cell 9
theorem Im.c10 (h : Im W p b L B o s) : W.cell? ⟨p, 10, none⟩ = some (.int .i64 L.b5) := h.st.cell 10
theorem Im.c11 (h : Im W p b L B o s) : W.cell? ⟨p, 11, none⟩ = some (.int .i64 L.b6) := h.st.cell 11
theorem Im.c12 (h : Im W p b L B o s) : W.cell? ⟨p, 12, none⟩ = some (.slice (some ⟨b, 0, none⟩) L.b6 L.b6) := h.st.cell 12
theorem Im.c13 (h : Im W p b L B o s) : W.cell? ⟨p, 13, none⟩ = some (.bool o) := h.st.cell 13
theorem Im.c14 (h : Im W p b L B o s) : W.cell? ⟨p, 14, none⟩ = some (.bool s) := h.st.cell 14
theorem Im.byte (h : Im W p b L B o s) (i : Nat) (hi : i < B.length) : W.cell? ⟨b, i, none⟩ = some (.int .u8 (B[i].toNat : Int)) := by
  rw [h.by_.cell i]
  simp [u8s, List.getElem?_eq_getElem hi]
theorem Im.slot (h : Im W p b L B o s) (i : Nat) (hi : i < 7) : W.cell? ⟨p, 5 + i, none⟩ = some (.int .i64 (L.beg i)) := by
  rw [h.st.cell]
  rcases (by omega : i = 0 ∨ i = 1 ∨ i = 2 ∨ i = 3 ∨ i = 4 ∨ i = 5 ∨ i = 6) with rfl | rfl | rfl | rfl | rfl | rfl | rfl <;> rfl
end
set_option maxHeartbeats 1000000 in
theorem span_any (p b : Nat) (L : Lay) (B : List UInt8) (o s : Bool) (r : Int) (w : World) (h : Im w p b L B o s) :
    Calls Try.prog 30 #[.pointer (some ⟨p, 0, none⟩), .int .i64 r] w fun e w' => e = .returned (.tuple #[.int .i64 (L.from_ r), .int .i64 (L.to_ r)]) ∧ ∃ n, w' = w.drewN n := by
  by_cases h1 : r < 1
  · have hx : L.from_ r = 0 ∧ L.to_ r = 0 := ⟨if_pos h1, if_pos h1⟩
    rw [hx.1, hx.2]
    clear hx
    go_enter Try.func30, Try.ntmps30
    go_wp2
    go_returns
    exact ⟨rfl, 0, rfl⟩
  · by_cases h2 : 5 < r
    · have hx : L.from_ r = 0 ∧ L.to_ r = 0 := ⟨(if_neg h1).trans (if_pos h2), (if_neg h1).trans (if_pos h2)⟩
      rw [hx.1, hx.2]
      clear hx
      go_enter Try.func30, Try.ntmps30
      go_wp2
      go_returns
      exact ⟨rfl, 0, rfl⟩
    · obtain ⟨i, hi, hi1, hi2⟩ : ∃ i : Nat, r = i ∧ 1 ≤ i ∧ i ≤ 5 := ⟨r.toNat, by omega, by omega, by omega⟩
      subst hi
      have hx : L.from_ (i : Int) = L.beg i ∧ L.to_ (i : Int) = L.beg (i + 1) := by
        constructor
        · exact (if_neg h1).trans (if_neg h2)
        · exact (if_neg h1).trans (if_neg h2)
      rw [hx.1, hx.2]
      clear hx
      have s1 := h.slot i (by omega)
      have s2 := h.slot (i + 1) (by omega)
      have i0 : (0 : Int) ≤ i := by omega
      have i7 : (i : Int) < 7 := by omega
      have j0 : (0 : Int) ≤ (i : Int) + 1 := by omega
      have j7 : (i : Int) + 1 < 7 := by omega
      have i1 : ¬ (i : Int) < 1 := by omega
      have i2 : ¬ 5 < (i : Int) := by omega
      clear h1 h2
      go_enter Try.func30, Try.ntmps30
      go_wp2_with (fail)
      go_quiet (fail)
      go_wp2_with (fail)
      go_returns
      exact ⟨rfl, _, rfl⟩
set_option maxHeartbeats 1000000 in
theorem region_any (p b : Nat) (L : Lay) (B : List UInt8) (o s : Bool) (a : Int) (w : World) (h : Im w p b L B o s) :
    Calls Try.prog 35 #[.pointer (some ⟨p, 0, none⟩), .int .i64 a] w fun e w' => e = .returned (.int .i64 (L.reg a)) ∧ w' = w := by
  have m := Lay.mono h.ok
  have c7 := h.c7
  have c8 := h.c8
  have c9 := h.c9
  have c10 := h.c10
  have c11 := h.c11
  by_cases h0 : a < 0
  · have hx : L.reg a = 0 := if_pos h0
    rw [hx]
    go_enter Try.func35, Try.ntmps35
    go_wp2
    go_returns
    exact ⟨rfl, rfl⟩
  · have hx : Hid (L.reg a = if a < L.b2 then 1 else if a < L.b3 then 2 else if a < L.b4 then 3 else if a < L.b5 then 4 else if a < L.b6 then 5 else 0) := if_neg h0
    clear h
    have i0 : 0 ≤ a := by omega
    generalize L.b2 = x2 at *
    generalize L.b3 = x3 at *
    generalize L.b4 = x4 at *
    generalize L.b5 = x5 at *
    generalize L.b6 = x6 at *
    have hc : a < x2 ∨ (¬ a < x2 ∧ a < x3) ∨ (¬ a < x2 ∧ ¬ a < x3 ∧ a < x4) ∨ (¬ a < x2 ∧ ¬ a < x3 ∧ ¬ a < x4 ∧ a < x5) ∨ (¬ a < x2 ∧ ¬ a < x3 ∧ ¬ a < x4 ∧ ¬ a < x5 ∧ a < x6) ∨ (¬ a < x2 ∧ ¬ a < x3 ∧ ¬ a < x4 ∧ ¬ a < x5 ∧ ¬ a < x6) := by omega
    rcases hc with g1 | ⟨g1, g2⟩ | ⟨g1, g2, g3⟩ | ⟨g1, g2, g3, g4⟩ | ⟨g1, g2, g3, g4, g5⟩ | ⟨g1, g2, g3, g4, g5⟩
    all_goals (
      go_enter Try.func35, Try.ntmps35
      go_wp2_with (fail)
      refine wp_loop_rounds 6 ?_
      rw [rounds_succ]
      go_wp2_with (fail))
    · go_returns
      exact ⟨by rw [hx.out, if_pos g1]; rfl, rfl⟩
    all_goals (
      rw [rounds_succ]
      go_wp2_with (fail))
    · go_returns
      exact ⟨by rw [hx.out, if_neg (Int.not_lt.2 g1), if_pos g2]; rfl, rfl⟩
    all_goals (
      rw [rounds_succ]
      go_wp2_with (fail))
    · go_returns
      exact ⟨by rw [hx.out, if_neg (Int.not_lt.2 g1), if_neg (Int.not_lt.2 g2), if_pos g3]; rfl, rfl⟩
    all_goals (
      rw [rounds_succ]
      go_wp2_with (fail))
    · go_returns
      exact ⟨by rw [hx.out, if_neg (Int.not_lt.2 g1), if_neg (Int.not_lt.2 g2), if_neg (Int.not_lt.2 g3), if_pos g4]; rfl, rfl⟩
    all_goals (
      rw [rounds_succ]
      go_wp2_with (fail))
    · go_returns
      exact ⟨by rw [hx.out, if_neg (Int.not_lt.2 g1), if_neg (Int.not_lt.2 g2), if_neg (Int.not_lt.2 g3), if_neg (Int.not_lt.2 g4), if_pos g5]; rfl, rfl⟩
    all_goals (
      rw [rounds_succ]
      go_wp2_with (fail))
    · go_returns
      exact ⟨by rw [hx.out, if_neg (Int.not_lt.2 g1), if_neg (Int.not_lt.2 g2), if_neg (Int.not_lt.2 g3), if_neg (Int.not_lt.2 g4), if_neg (Int.not_lt.2 g5)]; rfl, rfl⟩
end Go.Proofs.Ytoaiiimnfgbcaaa
