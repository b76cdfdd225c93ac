import Derived.Test.YtoaiiimnfgbcaaaRdSe
import Derived.Test.YtoaiiimnfgbcaaaRdT
import Derived.Test.YtoaiiimnfgbcaaaPostOps8
namespace Go.Proofs.Ytoaiiimnfgbcaaa
open Go.RowKit
attribute [local go_sem] Oper.semAt_some
set_option linter.unusedVariables false
set_option linter.unusedSimpArgs false
/-! chapter 8: DictPlays -/
/-- both lists; their Here and Latest may be any -/
def Rl (w : World) (v p b : Nat) (L : Lay) (K T : Ls) (W : World) : Prop := ∃ s B h l h' l', Al W p b L B s { K with h := h, l := l } { T with h := h', l := l' } ∧ So w v p b 0 K T W
section
variable {w W W1 : World} {v p b kk : Nat} {K T a c : Ls} {L : Lay} {B : List UInt8} {s : Bool}
theorem So.turnc (S : So w v p b kk a c W) (h' l' : Nat) : So w v p b kk a { c with h := h', l := l' } W := by
  have := (S.swap.turnh h' l').swap
  obtain ⟨x0, x1, y0, y1, ⟨h, k⟩ | ⟨h, k⟩⟩ := S
  · exact ⟨x0, x1, y0, y1, .inl ⟨h, ⟨k.wl, k.bel, k.lo⟩⟩⟩
  · exact ⟨x0, x1, y0, y1, .inr ⟨h, ⟨k.wl, k.bel, k.lo⟩⟩⟩
theorem Rl.bel (R : Rl w v p b L K T W) (hb : Below W.heap.size W W1) : Rl w v p b L K T W1 := by
  obtain ⟨s, B, h, l, h', l', H, S⟩ := R
  exact ⟨s, B, h, l, h', l', H.bel hb, S.bel' hb⟩
/-- the list that k speaks of, and the other one -/
theorem Rl.at (R : Rl w v p b L K T W) (hr : K.r = 1 ∧ T.r = 3) (hk : kk < 2) : ∃ (a c : Ls) (s : Bool) (B : List UInt8), Al W p b L B s a c ∧ So w v p b kk a c W ∧ (kk = 0 ∧ a.r = 1 ∧ c.r = 3 ∨ kk = 1 ∧ a.r = 3 ∧ c.r = 1) ∧ (∀ W', Dn w v p b kk L a c W' → Rl w v p b L K T W') ∧ (kk = 0 ∧ a.g = K.g ∧ a.n = K.n ∨ kk = 1 ∧ a.g = T.g ∧ a.n = T.n) := by
  obtain ⟨s, B, h, l, h', l', H, S⟩ := R
  match kk, hk with
  | 0, _ =>
    refine ⟨_, _, s, B, H, (S.turnh h l).turnc h' l', .inl ⟨rfl, hr.1, hr.2⟩, ?_, .inl ⟨rfl, rfl, rfl⟩⟩
    rintro W' ⟨s2, B2, h2, l2, H2, S2⟩
    exact ⟨s2, B2, h2, l2, h', l', H2, (S2.turnh K.h K.l).turnc T.h T.l⟩
  | 1, _ =>
    refine ⟨_, _, s, B, H.swap, ((S.turnh h l).turnc h' l').swap, .inr ⟨rfl, hr.2, hr.1⟩, ?_, .inr ⟨rfl, rfl, rfl⟩⟩
    rintro W' ⟨s2, B2, h2, l2, H2, S2⟩
    exact ⟨s2, B2, h, l, h2, l2, H2.swap, ((S2.turnh T.h T.l).turnc K.h K.l).swap⟩
theorem Rl.so (R : Rl w v p b L K T W) : So w v p b 0 K T W := by obtain ⟨s, B, h, l, h', l', H, S⟩ := R; exact S
theorem does_any (R : Rl w v p b L K T W) (hr : K.r = 1 ∧ T.r = 3) (of kd N : Int) (ch : UInt8) (nm : ByteArray) (hof : -9223372036854775808 ≤ of ∧ of ≤ 9223372036854775807) (hkd : -9223372036854775808 ≤ kd ∧ kd ≤ 9223372036854775807) (hN : -9223372036854775808 ≤ N ∧ N ≤ 9223372036854775807) (hnm : nm.size ≤ maxLen) :
    Calls Try.prog 22 #[.pointer (some ⟨v, 0, none⟩), .agg #[.int .i64 of, .int .i64 kd, .int .i64 N, .int .u8 (ch.toNat : Int), .string nm]] W fun e W' => e = .returned (.bool true) ∧ Rl w v p b L K T W' := by
  obtain ⟨a, c, s, B, H, S, hrr, hD, -⟩ := R.at hr (pickN_lt of 2 (by decide))
  have hk16 := pickN_lt kd 16 (by decide)
  have hdo : Calls Try.prog 22 #[.pointer (some ⟨v, 0, none⟩), .agg #[.int .i64 of, .int .i64 kd, .int .i64 N, .int .u8 (ch.toNat : Int), .string nm]] W fun e W' => e = .returned (.bool true) ∧ Dn w v p b (pickN of 2) L a c W' := by
    rcases (by omega : pickN kd 16 = 0 ∨ pickN kd 16 = 1 ∨ pickN kd 16 = 2 ∨ pickN kd 16 = 3 ∨ pickN kd 16 = 4 ∨ pickN kd 16 = 5 ∨ pickN kd 16 = 6 ∨ pickN kd 16 = 7 ∨ pickN kd 16 = 8 ∨ pickN kd 16 = 9 ∨ pickN kd 16 = 10 ∨ pickN kd 16 = 11 ∨ pickN kd 16 = 12 ∨ pickN kd 16 = 13 ∨ pickN kd 16 = 14 ∨ pickN kd 16 = 15) with h | h | h | h | h | h | h | h | h | h | h | h | h | h | h | h
    · exact does_0 H S of kd N ch nm hof hkd hN hnm rfl h
    · exact does_1 H S of kd N ch nm hof hkd hN hnm rfl h
    · exact does_2 H S of kd N ch nm hof hkd hN hnm rfl h
    · exact does_3 H S of kd N ch nm hof hkd hN hnm rfl h
    · exact does_4 H S of kd N ch nm hof hkd hN hnm rfl h
    · exact does_5 H S of kd N ch nm hof hkd hN hnm rfl h
    · exact does_6 H S of kd N ch nm hof hkd hN hnm rfl h
    · exact does_7 H S of kd N ch nm hof hkd hN hnm rfl h
    · exact does_8 H S of kd N ch nm hof hkd hN hnm rfl h
    · exact does_9 H S of kd N ch nm hof hkd hN hnm rfl h
    · exact does_10 H S of kd N ch nm hof hkd hN hnm rfl h
    · exact does_11 H S of kd N ch nm hof hkd hN hnm rfl h
    · exact does_12 H S of kd N ch nm hof hkd hN hnm rfl h
    · exact does_13 H S of kd N ch nm hof hkd hN hnm rfl h
    · exact does_14 H S of kd N ch nm hof hkd hN hnm rfl h
    · exact does_15 hrr H S of kd N ch nm hof hkd hN hnm rfl h
  refine hdo.mono ?_
  rintro e W' ⟨rfl, h⟩
  exact ⟨rfl, hD W' h⟩
/-- what the law asks of one list: the numbers, the bytes -/
structure At (w : World) (v p b kk : Nat) (L : Lay) (a : Ls) (s : Bool) (B : List UInt8) (W : World) : Prop where
  da : Dc W a.d p b L a.r (a.g + 8) (a.g + a.n) B false s a.h a.l
  ra : Rd W a.q a.m a.g a.n B (shut a.r s) a.h a.l
  c0 : W.cell? ⟨v, 0, none⟩ = some (.pointer (some ⟨p, 0, none⟩))
  c1 : W.cell? ⟨v, 1 + kk, none⟩ = some (.pointer (some ⟨a.d, 0, none⟩))
  c3 : W.cell? ⟨v, 3 + kk, none⟩ = some (.pointer (some ⟨a.q, 0, none⟩))
  vl : v < W.heap.size
  pp : partL L B (((1 + 2 * kk : Nat) : Int)) = win a.g a.n B
theorem At.bel {a : Ls} (h : At w v p b kk L a s B W) (hb : Below W.heap.size W W1) : At w v p b kk L a s B W1 :=
  ⟨h.da.bel hb, h.ra.bel hb, (hb.cell (p := ⟨v, 0, none⟩) h.vl).trans h.c0, (hb.cell (p := ⟨v, 1 + kk, none⟩) h.vl).trans h.c1, (hb.cell (p := ⟨v, 3 + kk, none⟩) h.vl).trans h.c3, Nat.lt_of_lt_of_le h.vl hb.size, h.pp⟩
theorem Rl.is (R : Rl w v p b L K T W) (hr : K.r = 1 ∧ T.r = 3) (hg : K.g = 0 ∧ K.n = L.k ∧ T.g = L.k + L.s ∧ T.n = L.u) (hk : kk < 2) : ∃ (a : Ls) (s : Bool) (B : List UInt8), At w v p b kk L a s B W := by
  obtain ⟨a, c, s, B, H, S, hrr, hD, hn⟩ := R.at hr hk
  refine ⟨a, s, B, H.da, H.ra, S.c0, S.c1, S.c3, ?_, ?_⟩
  · obtain ⟨vs, hv⟩ := S.wl
    exact hv.lt
  · rcases hn with ⟨rfl, h1, h2⟩ | ⟨rfl, h1, h2⟩
    · rw [h1, h2, hg.1, hg.2.1]
      rfl
    · rw [h1, h2, hg.2.2.1, hg.2.2.2]
      show (B.drop (L.k + L.s)).take (L.k + L.s + L.u - (L.k + L.s)) = (B.drop (L.k + L.s)).take L.u
      rw [Nat.add_sub_cancel_left]
end
end Go.Proofs.Ytoaiiimnfgbcaaa
