import Derived.Test.YtoaiiimnfgbcaaaRdK
import Derived.Test.YtoaiiimnfgbcaaaPick
namespace Go.Proofs.Ytoaiiimnfgbcaaa
open Go.RowKit
set_option linter.unusedVariables false
set_option linter.unusedSimpArgs false
/-! chapter 8: both lists, the program's and the document's, over one image's bytes -/
structure Ls where
  d : Nat
  q : Nat
  m : Nat
  r : Nat
  g : Nat
  n : Nat
  h : Nat
  l : Nat
structure Al (W : World) (p b : Nat) (L : Lay) (B : List UInt8) (s : Bool) (a c : Ls) : Prop where
  da : Dc W a.d p b L a.r (a.g + 8) (a.g + a.n) B false s a.h a.l
  dc : Dc W c.d p b L c.r (c.g + 8) (c.g + c.n) B false s c.h c.l
  ra : Rd W a.q a.m a.g a.n B (shut a.r s) a.h a.l
  rc : Rd W c.q c.m c.g c.n B (shut c.r s) c.h c.l
  nd : a.d ≠ c.d
  nq : a.q ≠ c.q
  nm : a.m ≠ c.m
  nb : a.m ≠ b ∧ c.m ≠ b
  ap : a.g + a.n ≤ c.g ∨ c.g + c.n ≤ a.g
section
variable {W W1 W2 : World} {p b : Nat} {L : Lay} {B B' : List UInt8} {s : Bool} {a c : Ls}
theorem Al.swap (H : Al W p b L B s a c) : Al W p b L B s c a := ⟨H.dc, H.da, H.rc, H.ra, H.nd.symm, H.nq.symm, H.nm.symm, H.nb.symm, H.ap.symm⟩
theorem Al.bel (H : Al W p b L B s a c) (hb : Below W.heap.size W W1) : Al W1 p b L B s a c := ⟨H.da.bel hb, H.dc.bel hb, H.ra.bel hb, H.rc.bel hb, H.nd, H.nq, H.nm, H.nb, H.ap⟩
theorem Al.draws (H : Al W p b L B s a c) (k : Nat) : Al (W.drewN k) p b L B s a c := H.bel (below_drawn (Below.refl _ W) k)
/-- the document's list lies as it lay while the program's turns -/
theorem Rd.onb {q m g n h l b d : Nat} {cl : Bool} (D : Rd W q m g n B cl h l) (O : Onb b d W W1) (h1 : q ≠ b) (h2 : q ≠ d) (h3 : m ≠ b) (h4 : m ≠ d) : Rd W1 q m g n B cl h l :=
  ⟨O.bk D.bk h1 h2, O.bk D.by_ h3 h4, D.len, D.g8, D.n8, D.n24, D.far, D.lo, D.hi, D.la⟩
theorem Dc.onb {d q m r f y h l : Nat} {o : Bool} (D : Dc W d p b L r f y B o s h l) (O : Onb m q W W1) (h1 : p ≠ m) (h2 : p ≠ q) (h3 : b ≠ m) (h4 : b ≠ q) (h5 : d ≠ m) (h6 : d ≠ q) : Dc W1 d p b L r f y B o s h l :=
  ⟨⟨D.im.ok, O.bk D.im.st h1 h2, O.bk D.im.by_ h3 h4, D.im.len⟩, O.bk D.bk h5 h6, D.rr, D.fx, D.yx, D.lo, D.hi, D.la⟩
/-- ahead of the document's turn -/
theorem Al.mid (H : Al W p b L B s a c) (O : Onb b a.d W W1) : Rd W1 a.q a.m a.g a.n B (shut a.r s) a.h a.l :=
  H.ra.onb O (H.ra.bk.ne H.da.im.by_ (by decide)) (H.ra.bk.ne H.da.bk (by decide)) H.nb.1 (H.ra.by_.ne H.da.bk (by decide))
/-- both have turned -/
theorem Al.step {h' l' : Nat} (H : Al W p b L B s a c) (D1 : Dc W1 a.d p b L a.r (a.g + 8) (a.g + a.n) B' false s h' l') (O1 : Onb b a.d W W1) (R2 : Rd W2 a.q a.m a.g a.n B' (shut a.r s) h' l') (O2 : Onb a.m a.q W1 W2)
    (hl : B'.length = B.length) (hs : ∀ i, ¬ (a.g ≤ i ∧ i < a.g + a.n) → B'.getD i 0 = B.getD i 0) : Al W2 p b L B' s { a with h := h', l := l' } c := by
  have R1 := H.mid O1
  have c1 : Bk W1 c.d 82 (dcV p (c.g + 8) (c.g + c.n) c.h c.l) := O1.bk H.dc.bk (H.dc.bk.ne H.da.im.by_ (by decide)) H.nd.symm
  have Dc1 : Dc W1 c.d p b L c.r (c.g + 8) (c.g + c.n) B' false s c.h c.l := ⟨D1.im, c1, H.dc.rr, H.dc.fx, H.dc.yx, H.dc.lo, H.dc.hi, H.dc.la⟩
  have Rc1 : Rd W1 c.q c.m c.g c.n B (shut c.r s) c.h c.l := H.rc.onb O1 (H.rc.bk.ne H.da.im.by_ (by decide)) (H.rc.bk.ne H.da.bk (by decide)) H.nb.2 (H.rc.by_.ne H.da.bk (by decide))
  have q1 := R1.bk
  have m1 := R1.by_
  have hap := H.ap
  refine ⟨?_, ?_, R2, ?_, H.nd, H.nq, H.nm, H.nb, H.ap⟩
  · exact D1.onb O2 (D1.im.st.ne m1 (by decide)) (D1.im.st.ne q1 (by decide)) H.nb.1.symm (D1.im.by_.ne q1 (by decide)) (D1.bk.ne m1 (by decide)) (D1.bk.ne q1 (by decide))
  · exact Dc1.onb O2 (D1.im.st.ne m1 (by decide)) (D1.im.st.ne q1 (by decide)) H.nb.1.symm (D1.im.by_.ne q1 (by decide)) (Dc1.bk.ne m1 (by decide)) (Dc1.bk.ne q1 (by decide))
  · exact (Rc1.onb O2 (Rc1.bk.ne m1 (by decide)) H.nq.symm H.nm.symm (Rc1.by_.ne q1 (by decide))).turn hl (fun i h1 h2 => hs i (by omega))
/-- what counts of Onb for the rest of memory -/
theorem Al.out {k : Nat} {t : TypeId} {vs : Array Value} (H : Al W p b L B s a c) (O1 : Onb b a.d W W1) (O2 : Onb a.m a.q W1 W2) (hk : Bk W k t vs) (h1 : k ≠ b) (h2 : k ≠ a.d) (h3 : k ≠ a.m) (h4 : k ≠ a.q) : Bk W2 k t vs := O2.bk (O1.bk hk h1 h2) h3 h4
end
end Go.Proofs.Ytoaiiimnfgbcaaa

namespace Go.Proofs.Ytoaiiimnfgbcaaa
open Go.RowKit
set_option linter.unusedVariables false
set_option linter.unusedSimpArgs false
/-! chapter 8, plain: what is written lies in the list's own window -/
/-- outside the window all bytes stay -/
def Outw (g n : Nat) (B B' : List UInt8) : Prop := B'.length = B.length ∧ ∀ i, ¬ (g ≤ i ∧ i < g + n) → B'.getD i 0 = B.getD i 0
section
variable {g n : Nat} {B C E : List UInt8}
theorem Outw.refl (g n : Nat) (B : List UInt8) : Outw g n B B := ⟨rfl, fun _ _ => rfl⟩
theorem Outw.trans (h : Outw g n B C) (k : Outw g n C E) : Outw g n B E := ⟨k.1.trans h.1, fun i hi => (k.2 i hi).trans (h.2 i hi)⟩
theorem outw_set (B : List UInt8) (i : Nat) (c : UInt8) (h1 : g ≤ i) (h2 : i < g + n) : Outw g n B (B.set i c) := ⟨List.length_set, fun j hj => by rw [getD_set, if_neg (by omega)]⟩
theorem outw_splice (B cs : List UInt8) (x : Nat) (h1 : g ≤ x) (h2 : x + cs.length ≤ g + n) (hB : g + n ≤ B.length) : Outw g n B (splice B x cs) := ⟨splice_len _ _ _ (by omega), fun j hj => getD_out B cs x j (by omega) (by omega)⟩
theorem outw_fill (k : Nat) : ∀ (B : List UInt8) (x : Nat), g ≤ x → x + k ≤ g + n → Outw g n B (fillN B x k) := by
  intro B x h1 h2
  induction k with
  | zero => exact Outw.refl _ _ _
  | succ k ih =>
    rw [fillN_snoc]
    exact (ih (by omega)).trans (outw_set _ _ _ (by omega) (by omega))
theorem outw_lay : ∀ (cs B : List UInt8) (x : Nat), g ≤ x → x + cs.length ≤ g + n → Outw g n B (layN B x cs)
  | [], B, x, _, _ => Outw.refl _ _ _
  | c :: cs, B, x, h1, h2 => by
    rw [List.length_cons] at h2
    unfold layN
    exact (outw_set B x c h1 (by omega)).trans (outw_lay cs _ _ (by omega) (by omega))
theorem outw_cr (B : List UInt8) (h l : Nat) (nm : ByteArray) (h1 : g ≤ h) (hz : 1 ≤ nm.size) (hfit : ¬ g + n < upN h + (8 + upN (1 + nm.size))) (hB : g + n ≤ B.length) (n8 : (g + n) % 8 = 0) : Outw g n B (crB B h l nm) := by
  have u1 := upN_le h
  have u2 := upN_le (1 + nm.size)
  have u3 : upN (upN h + 9 + nm.size) ≤ g + n ∧ upN h + 9 + nm.size ≤ upN (upN h + 9 + nm.size) := by
    have := upN_le (upN h + 9 + nm.size)
    unfold upN at *
    omega
  unfold crB
  have e1 := outw_fill (g := g) (n := n) (upN h - h) B h h1 (by omega)
  have e2 := outw_splice (g := g) (n := n) (fillN B h (upN h - h)) (by8 l) (upN h) (by omega) (by rw [by8_length]; omega) (by rw [e1.1]; exact hB)
  have e3 := outw_set (g := g) (n := n) (splice (fillN B h (upN h - h)) (upN h) (by8 l)) (upN h + 8) (UInt8.ofNat (nm.size + 32)) (by omega) (by omega)
  have hsz : nm.data.toList.length = nm.size := rfl
  have e4 := outw_lay (g := g) (n := n) nm.data.toList ((splice (fillN B h (upN h - h)) (upN h) (by8 l)).set (upN h + 8) (UInt8.ofNat (nm.size + 32))) (upN h + 8 + 1) (by omega) (by rw [hsz]; omega)
  exact (((e1.trans e2).trans e3).trans e4).trans (outw_fill _ _ _ (by omega) (by omega))
theorem outw_mk (k l : Nat) (cl : Bool) (B : List UInt8) (hl : l = 0 ∨ g + 8 ≤ l) : Outw g n B (mkB k (g + n) l cl B) := by
  unfold mkB
  split
  · exact Outw.refl _ _ _
  · rename_i hno
    exact outw_set _ _ _ (by omega) (by omega)
end
end Go.Proofs.Ytoaiiimnfgbcaaa

namespace Go.Proofs.Ytoaiiimnfgbcaaa
open Go.RowKit
set_option linter.unusedVariables false
set_option linter.unusedSimpArgs false
/-! chapter 8: a call of the program's list, then the document's: the same answer, and both lie as each other again -/
def Prd (W : World) (p b : Nat) (L : Lay) (s : Bool) (a c : Ls) (F : FuncId) (A : Array Value) (v : Value) (G : FuncId) (A' : Array Value) (v' : Value) : Prop :=
  (Calls Try.prog F A W fun e W1 => e = .returned v ∧ Onb b a.d W W1 ∧ Calls Try.prog G A' W1 fun e W2 => e = .returned v' ∧ Onb a.m a.q W1 W2 ∧ ∃ B' h' l', Al W2 p b L B' s { a with h := h', l := l' } c) ∧
  (Calls Try.prog G A' W fun e W1 => e = .returned v' ∧ Onb a.m a.q W W1 ∧ Calls Try.prog F A W1 fun e W2 => e = .returned v ∧ Onb b a.d W1 W2 ∧ ∃ B' h' l', Al W2 p b L B' s { a with h := h', l := l' } c)
section
variable {W W1 W2 : World} {p b : Nat} {L : Lay} {B B' : List UInt8} {s : Bool} {a c : Ls} {F G : FuncId} {A A' : Array Value} {v v' : Value}
/-- the document's list has turned first -/
theorem Al.midd (H : Al W p b L B s a c) (O : Onb a.m a.q W W1) : Dc W1 a.d p b L a.r (a.g + 8) (a.g + a.n) B false s a.h a.l ∧ Dc W1 c.d p b L c.r (c.g + 8) (c.g + c.n) B false s c.h c.l ∧ Rd W1 c.q c.m c.g c.n B (shut c.r s) c.h c.l := by
  have q1 := H.ra.bk
  have m1 := H.ra.by_
  exact ⟨H.da.onb O (H.da.im.st.ne m1 (by decide)) (H.da.im.st.ne q1 (by decide)) H.nb.1.symm (H.da.im.by_.ne q1 (by decide)) (H.da.bk.ne m1 (by decide)) (H.da.bk.ne q1 (by decide)),
    H.dc.onb O (H.da.im.st.ne m1 (by decide)) (H.da.im.st.ne q1 (by decide)) H.nb.1.symm (H.da.im.by_.ne q1 (by decide)) (H.dc.bk.ne m1 (by decide)) (H.dc.bk.ne q1 (by decide)),
    H.rc.onb O (H.rc.bk.ne m1 (by decide)) H.nq.symm H.nm.symm (H.rc.by_.ne q1 (by decide))⟩
theorem Al.step2 {h' l' : Nat} (H : Al W p b L B s a c) (R1 : Rd W1 a.q a.m a.g a.n B' (shut a.r s) h' l') (O1 : Onb a.m a.q W W1) (D2 : Dc W2 a.d p b L a.r (a.g + 8) (a.g + a.n) B' false s h' l') (O2 : Onb b a.d W1 W2) (hO : Outw a.g a.n B B') : Al W2 p b L B' s { a with h := h', l := l' } c := by
  obtain ⟨da, dc, rc⟩ := H.midd O1
  have c2 : Bk W2 c.d 82 (dcV p (c.g + 8) (c.g + c.n) c.h c.l) := O2.bk dc.bk (dc.bk.ne da.im.by_ (by decide)) H.nd.symm
  have hap := H.ap
  refine ⟨D2, ⟨D2.im, c2, dc.rr, dc.fx, dc.yx, dc.lo, dc.hi, dc.la⟩, R1.onb O2 (R1.bk.ne da.im.by_ (by decide)) (R1.bk.ne da.bk (by decide)) H.nb.1 (R1.by_.ne da.bk (by decide)), ?_, H.nd, H.nq, H.nm, H.nb, H.ap⟩
  exact (rc.onb O2 (rc.bk.ne da.im.by_ (by decide)) (rc.bk.ne da.bk (by decide)) H.nb.2 (rc.by_.ne da.bk (by decide))).turn hO.1 (fun i h1 h2 => hO.2 i (by omega))
theorem Al.yes {h' l' : Nat} (H : Al W p b L B s a c) (hP : ∀ W1, Dc W1 a.d p b L a.r (a.g + 8) (a.g + a.n) B false s a.h a.l → Calls Try.prog F A W1 fun e W2 => e = .returned v ∧ Dc W2 a.d p b L a.r (a.g + 8) (a.g + a.n) B' false s h' l' ∧ Onb b a.d W1 W2)
    (hR : ∀ W1, Rd W1 a.q a.m a.g a.n B (shut a.r s) a.h a.l → Calls Try.prog G A' W1 fun e W2 => e = .returned v' ∧ Rd W2 a.q a.m a.g a.n B' (shut a.r s) h' l' ∧ Onb a.m a.q W1 W2) (hO : Outw a.g a.n B B') : Prd W p b L s a c F A v G A' v' := by
  constructor
  · refine (hP W H.da).mono ?_
    rintro e W1 ⟨rfl, D1, O1⟩
    refine ⟨rfl, O1, ?_⟩
    refine (hR W1 (H.mid O1)).mono ?_
    rintro e W2 ⟨rfl, R2, O2⟩
    exact ⟨rfl, O2, B', h', l', H.step D1 O1 R2 O2 hO.1 hO.2⟩
  · refine (hR W H.ra).mono ?_
    rintro e W1 ⟨rfl, R1, O1⟩
    refine ⟨rfl, O1, ?_⟩
    refine (hP W1 (H.midd O1).1).mono ?_
    rintro e W2 ⟨rfl, D2, O2⟩
    exact ⟨rfl, O2, B', h', l', H.step2 R1 O1 D2 O2 hO⟩
theorem Al.no (H : Al W p b L B s a c) (hP : ∀ W1, Dc W1 a.d p b L a.r (a.g + 8) (a.g + a.n) B false s a.h a.l → Calls Try.prog F A W1 fun e W2 => e = .returned v ∧ Below W1.heap.size W1 W2)
    (hR : ∀ W1, Rd W1 a.q a.m a.g a.n B (shut a.r s) a.h a.l → Calls Try.prog G A' W1 fun e W2 => e = .returned v' ∧ ∃ k, W2 = W1.drewN k) : Prd W p b L s a c F A v G A' v' := by
  constructor
  · refine (hP W H.da).mono ?_
    rintro e W1 ⟨rfl, hb⟩
    refine ⟨rfl, Onb.ofbel hb, ?_⟩
    refine (hR W1 (H.ra.bel hb)).mono ?_
    rintro e W2 ⟨rfl, k, rfl⟩
    exact ⟨rfl, (Onb.refl _ _ _).draws k, B, a.h, a.l, (H.bel hb).draws k⟩
  · refine (hR W H.ra).mono ?_
    rintro e W1 ⟨rfl, k, rfl⟩
    refine ⟨rfl, (Onb.refl _ _ _).draws k, ?_⟩
    refine (hP _ (H.da.draws k)).mono ?_
    rintro e W2 ⟨rfl, hb⟩
    exact ⟨rfl, Onb.ofbel hb, B, a.h, a.l, (H.draws k).bel hb⟩
theorem drw {P : Ending → Prop} (h : Calls Try.prog F A W fun e W1 => P e ∧ ∃ k, W1 = W.drewN k) : Calls Try.prog F A W fun e W1 => P e ∧ Below W.heap.size W W1 := h.mono (by rintro e W1 ⟨h1, k, rfl⟩; exact ⟨h1, below_drawn (Below.refl _ _) k⟩)
theorem same_w {P : Ending → Prop} (h : Calls Try.prog F A W fun e W1 => P e ∧ W1 = W) : Calls Try.prog F A W fun e W1 => P e ∧ ∃ k, W1 = W.drewN k := h.mono (by rintro e W1 ⟨h1, rfl⟩; exact ⟨h1, 0, rfl⟩)
theorem pr_allot (H : Al W p b L B s a c) (x : Int) (hx : -9223372036854775808 ≤ x ∧ x ≤ 9223372036854775807) : ∃ k : Int, Prd W p b L s a c 41 #[.pointer (some ⟨a.d, 0, none⟩), .int .i64 x] (.int .i64 k) 42 #[.pointer (some ⟨a.q, 0, none⟩), .int .i64 x] (.int .i64 k) := by
  by_cases hn : x < ((a.g + 8 : Nat) : Int) - a.h ∨ ((a.g + a.n : Nat) : Int) - a.h < x
  · exact ⟨9, H.no (fun W1 D => drw (allot_full D x hn hx)) (fun W1 R => rallot_full R x hn hx)⟩
  · exact ⟨0, H.yes (fun W1 D => allot_yes D x (by omega) (by omega)) (fun W1 R => rallot_yes R x (by omega) (by omega)) (Outw.refl _ _ _)⟩
theorem pr_comma (H : Al W p b L B s a c) (x : Int) (hx : -9223372036854775808 ≤ x ∧ x ≤ 9223372036854775807) : ∃ k : Int, Prd W p b L s a c 27 #[.pointer (some ⟨a.d, 0, none⟩), .int .i64 x] (.int .i64 k) 43 #[.pointer (some ⟨a.q, 0, none⟩), .int .i64 x] (.int .i64 k) := by
  by_cases h1 : a.h + 8 ≤ a.g + a.n
  · by_cases h8 : a.h % 8 = 0
    · cases hc : shut a.r s
      · refine ⟨0, H.yes (fun W1 D => cm_yes D x h1 h8 hc) (fun W1 R => ?_) (outw_splice _ _ _ (by have := H.ra.lo; omega) (by rw [by8_length]; exact h1) H.ra.len)⟩
        rw [hc] at R ⊢
        exact rcm_yes R x hx h1 h8
      · exact ⟨5, H.no (fun W1 D => drw (cm_bad D x h1 5 (.inr ⟨h8, hc, rfl⟩))) (fun W1 R => rcm_bad R x h1 5 (.inr ⟨h8, hc, rfl⟩))⟩
    · exact ⟨6, H.no (fun W1 D => drw (cm_bad D x h1 6 (.inl ⟨h8, rfl⟩))) (fun W1 R => rcm_bad R x h1 6 (.inl ⟨h8, rfl⟩))⟩
  · exact ⟨9, H.no (fun W1 D => drw (cm_full D x (by omega))) (fun W1 R => rcm_full R x (by omega))⟩
theorem pr_ccomma (H : Al W p b L B s a c) (x : UInt8) : ∃ k : Int, Prd W p b L s a c 28 #[.pointer (some ⟨a.d, 0, none⟩), .int .u8 (x.toNat : Int)] (.int .i64 k) 44 #[.pointer (some ⟨a.q, 0, none⟩), .int .u8 (x.toNat : Int)] (.int .i64 k) := by
  by_cases h1 : a.h < a.g + a.n
  · cases hc : shut a.r s
    · refine ⟨0, H.yes (fun W1 D => cc_yes D x h1 hc) (fun W1 R => ?_) (outw_set _ _ _ (by have := H.ra.lo; omega) h1)⟩
      rw [hc] at R ⊢
      exact rcc_yes R x h1
    · refine ⟨5, H.no (fun W1 D => drw (cc_fence D x.toNat h1 hc)) (fun W1 R => ?_)⟩
      rw [hc] at R
      exact rcc_fence R x.toNat h1
  · exact ⟨9, H.no (fun W1 D => drw (cc_full D x.toNat (by omega))) (fun W1 R => rcc_full R x.toNat (by omega))⟩
theorem pr_align (H : Al W p b L B s a c) : ∃ k : Int, Prd W p b L s a c 29 #[.pointer (some ⟨a.d, 0, none⟩)] (.int .i64 k) 45 #[.pointer (some ⟨a.q, 0, none⟩)] (.int .i64 k) := by
  by_cases h8 : a.h % 8 = 0
  · exact ⟨0, H.no (fun W1 D => drw (same_w (al_zero D h8))) (fun W1 R => same_w (ral_zero R h8))⟩
  · cases hc : shut a.r s
    · refine ⟨0, H.yes (fun W1 D => al_yes D hc) (fun W1 R => ?_) (outw_fill _ _ _ (by have := H.ra.lo; omega) ?_)⟩
      · rw [hc] at R ⊢
        exact ral_yes R
      · have h1 := upN_le a.h
        have h2 := H.ra.hi
        have h3 := H.ra.g8
        have h4 := H.ra.n8
        unfold upN at *
        omega
    · refine ⟨5, H.no (fun W1 D => drw (al_fence D h8 hc)) (fun W1 R => ?_)⟩
      rw [hc] at R
      exact same_w (ral_fence R h8)
theorem pr_back (H : Al W p b L B s a c) (x z : Int) : ∃ k : Int, Prd W p b L s a c 17 #[.pointer (some ⟨a.d, 0, none⟩), .int .i64 x, .int .i64 z] (.int .i64 k) 53 #[.pointer (some ⟨a.q, 0, none⟩), .int .i64 x, .int .i64 z] (.int .i64 k) := by
  by_cases hb : backOk (a.g + 8) (a.g + a.n) x z
  · exact ⟨0, H.yes (fun W1 D => back_yes D x z hb) (fun W1 R => rback_yes R x z hb) (Outw.refl _ _ _)⟩
  · exact ⟨1, H.no (fun W1 D => drw (back_bad D x z hb)) (fun W1 R => rback_bad R x z hb)⟩
theorem pr_create (H : Al W p b L B s a c) (nm : ByteArray) (hs : nm.size ≤ maxLen) : ∃ k x : Int, Prd W p b L s a c 14 #[.pointer (some ⟨a.d, 0, none⟩), .string nm] (.tuple #[.int .i64 x, .int .i64 k]) 46 #[.pointer (some ⟨a.q, 0, none⟩), .string nm] (.tuple #[.int .i64 x, .int .i64 k]) := by
  cases hk : nameOk nm
  · exact ⟨15, 0, H.no (fun W1 D => cr_name D nm hs hk) (fun W1 R => rcr_name R nm hs hk)⟩
  · by_cases hf : a.g + a.n < upN a.h + (8 + upN (1 + nm.size))
    · exact ⟨9, 0, H.no (fun W1 D => cr_full D nm hs hk hf) (fun W1 R => rcr_full R nm hs hk hf)⟩
    · cases hc : shut a.r s
      · have hnz : 1 ≤ nm.size ∧ nm.size ≤ 31 := by
          have : 1 ≤ nm.size ∧ nm.size ≤ 31 ∧ stop isInk nm 0 = nm.size := by simpa [nameOk] using hk
          exact ⟨this.1, this.2.1⟩
        refine ⟨0, _, H.yes (fun W1 D => cr_yes D nm hs hk hf hc) (fun W1 R => ?_) (outw_cr _ _ _ _ (by have := H.ra.lo; omega) hnz.1 hf H.ra.len (by have := H.ra.g8; have := H.ra.n8; omega))⟩
        rw [hc] at R ⊢
        exact rcr_yes R nm hs hk hf
      · refine ⟨5, 0, H.no (fun W1 D => cr_fence D nm hs hk hf hc) (fun W1 R => ?_)⟩
        rw [hc] at R
        exact rcr_fence R nm hs hk hf
end
end Go.Proofs.Ytoaiiimnfgbcaaa

namespace Go.Proofs.Ytoaiiimnfgbcaaa
open Go.RowKit
set_option linter.unusedVariables false
set_option linter.unusedSimpArgs false
/-! chapter 8: pairs: the marks, Find, Mark -/
section
variable {W : World} {p b : Nat} {L : Lay} {B : List UInt8} {s : Bool} {a c : Ls}
theorem rflag_any {w : World} {q m g n h l : Nat} {cl : Bool} (D : Rd w q m g n B cl h l) (k : Nat) (off on : Int) (hk : (off = 32 ∧ on = 0 ∧ k = 0) ∨ (off = 0 ∧ on = 64 ∧ k = 1) ∨ (off = 0 ∧ on = 128 ∧ k = 2)) : Calls Try.prog 47 #[.pointer (some ⟨q, 0, none⟩), .int .i64 off, .int .i64 on] w fun e w' => e = .returned (.tuple #[]) ∧ Rd w' q m g n (mkB k (g + n) l cl B) cl h l ∧ Onb m q w w' := by
  by_cases hno : l = 0 ∨ cl = true ∨ g + n ≤ l + 8
  · have e : mkB k (g + n) l cl B = B := by unfold mkB; rw [if_pos hno]
    rw [e]
    refine (rflag_no D off on hno).mono ?_
    rintro e w' ⟨rfl, t, rfl⟩
    exact ⟨rfl, D.draws t, (Onb.refl _ _ _).draws t⟩
  · have e : mkB k (g + n) l cl B = B.set (l + 8) (mkU k (B.getD (l + 8) 0)) := by unfold mkB; rw [if_neg hno]
    rw [e]
    have hcl : cl = false := by
      cases cl
      · rfl
      · exact absurd (.inr (.inl rfl)) hno
    subst hcl
    exact rflag_in D k off on hk (by omega) (by omega)
theorem Al.lal (H : Al W p b L B s a c) : a.l = 0 ∨ a.g + 8 ≤ a.l := by have := H.ra.la; omega
theorem pr_show (H : Al W p b L B s a c) : Prd W p b L s a c 16 #[.pointer (some ⟨a.d, 0, none⟩)] (.tuple #[]) 47 #[.pointer (some ⟨a.q, 0, none⟩), .int .i64 32, .int .i64 0] (.tuple #[]) :=
  H.yes (fun W1 D => flag_0 D) (fun W1 R => rflag_any R 0 32 0 (.inl ⟨rfl, rfl, rfl⟩)) (outw_mk _ _ _ _ H.lal)
theorem pr_imm (H : Al W p b L B s a c) : Prd W p b L s a c 48 #[.pointer (some ⟨a.d, 0, none⟩)] (.tuple #[]) 47 #[.pointer (some ⟨a.q, 0, none⟩), .int .i64 0, .int .i64 64] (.tuple #[]) :=
  H.yes (fun W1 D => flag_1 D) (fun W1 R => rflag_any R 1 0 64 (.inr (.inl ⟨rfl, rfl, rfl⟩))) (outw_mk _ _ _ _ H.lal)
theorem pr_inl (H : Al W p b L B s a c) : Prd W p b L s a c 49 #[.pointer (some ⟨a.d, 0, none⟩)] (.tuple #[]) 47 #[.pointer (some ⟨a.q, 0, none⟩), .int .i64 0, .int .i64 128] (.tuple #[]) :=
  H.yes (fun W1 D => flag_2 D) (fun W1 R => rflag_any R 2 0 128 (.inr (.inr ⟨rfl, rfl, rfl⟩))) (outw_mk _ _ _ _ H.lal)
/-- what both lists' Find tells -/
noncomputable def fndX (B : List UInt8) (a : Ls) (nm : ByteArray) : Option Wd := findP (walkP B (a.g + 8) (a.g + a.n) a.l) nm
theorem pr_find (H : Al W p b L B s a c) (nm : ByteArray) (hs : nm.size ≤ maxLen) : Calls Try.prog 11 #[.pointer (some ⟨a.d, 0, none⟩), .string nm] W fun e W1 => e = .returned (.tuple #[wdV ((fndX B a nm).getD wd0), .bool (fndX B a nm).isSome]) ∧ Below W.heap.size W W1 := find_any H.da nm hs
theorem pr_rfind (H : Al W p b L B s a c) (nm : ByteArray) (hs : nm.size ≤ maxLen) : Calls Try.prog 50 #[.pointer (some ⟨a.q, 0, none⟩), .string nm] W fun e W1 => e = .returned (.tuple #[wdV ((fndX B a nm).getD wd0), .bool (fndX B a nm).isSome]) ∧ Below W.heap.size W W1 := rfind_any H.ra nm hs
end
end Go.Proofs.Ytoaiiimnfgbcaaa

namespace Go.Proofs.Ytoaiiimnfgbcaaa
open Go.RowKit
set_option linter.unusedVariables false
set_option linter.unusedSimpArgs false
/-! chapter 8: the image is sealed -/
section
variable {W W1 : World} {p b : Nat} {L : Lay} {B : List UInt8} {s : Bool} {a c : Ls}
theorem Al.shutq (da : Dc W1 a.d p b L a.r (a.g + 8) (a.g + a.n) B false true a.h a.l) (dc : Dc W1 c.d p b L c.r (c.g + 8) (c.g + c.n) B false true c.h c.l) {cl : Bool} (ra : Rd W1 a.q a.m a.g a.n B cl a.h a.l) (rc : Rd W1 c.q c.m c.g c.n B false c.h c.l)
    (ha : a.r = 1) (hc : c.r = 3) (nd : a.d ≠ c.d) (nq : a.q ≠ c.q) (nm : a.m ≠ c.m) (nb : a.m ≠ b ∧ c.m ≠ b) (ap : a.g + a.n ≤ c.g ∨ c.g + c.n ≤ a.g) : Al (W1.setCell ⟨a.q, 2, none⟩ (.bool true)) p b L B true a c := by
  have e1 : shut a.r true = true := by rw [ha]; rfl
  have e2 : shut c.r true = false := by rw [hc]; rfl
  have O : Onb a.m a.q W1 (W1.setCell ⟨a.q, 2, none⟩ (.bool true)) := Onb.ofd ((Only.refl a.q W1).put 2 _)
  have q1 := ra.bk
  have m1 := ra.by_
  refine ⟨?_, ?_, by rw [e1]; exact ra.shutp, ?_, nd, nq, nm, nb, ap⟩
  · exact da.onb O (da.im.st.ne m1 (by decide)) (da.im.st.ne q1 (by decide)) nb.1.symm (da.im.by_.ne q1 (by decide)) (da.bk.ne m1 (by decide)) (da.bk.ne q1 (by decide))
  · exact dc.onb O (da.im.st.ne m1 (by decide)) (da.im.st.ne q1 (by decide)) nb.1.symm (da.im.by_.ne q1 (by decide)) (dc.bk.ne m1 (by decide)) (dc.bk.ne q1 (by decide))
  · rw [e2]
    exact rc.onb O (rc.bk.ne m1 (by decide)) nq.symm nm.symm (rc.by_.ne q1 (by decide))
/-- Seal, and the document's list of the kernel is closed -/
theorem pr_seal (H : Al W p b L B s a c) (ha : a.r = 1) (hc : c.r = 3) : ∃ k : Int, Calls Try.prog 55 #[.pointer (some ⟨p, 0, none⟩)] W fun e W1 => e = .returned (.int .i64 k) ∧ Only p W W1 ∧ (∃ cl, Rd W1 a.q a.m a.g a.n B cl a.h a.l) ∧ Al (W1.setCell ⟨a.q, 2, none⟩ (.bool true)) p b L B true a c := by
  have e2 : shut c.r s = false := by rw [hc]; rfl
  have rc := H.rc
  rw [e2] at rc
  cases s
  · refine ⟨0, (seal_yes H.da.im).mono ?_⟩
    rintro e W1 ⟨rfl, hI, hO⟩
    have O : Onb p p W W1 := Onb.ofb hO
    have da1 : Bk W1 a.d 82 (dcV p (a.g + 8) (a.g + a.n) a.h a.l) := O.bk H.da.bk H.da.nep H.da.nep
    have dc1 : Bk W1 c.d 82 (dcV p (c.g + 8) (c.g + c.n) c.h c.l) := O.bk H.dc.bk H.dc.nep H.dc.nep
    have ra1 := H.ra.onb O (H.ra.bk.ne H.da.im.st (by decide)) (H.ra.bk.ne H.da.im.st (by decide)) (H.ra.by_.ne H.da.im.st (by decide)) (H.ra.by_.ne H.da.im.st (by decide))
    have rc1 := rc.onb O (H.rc.bk.ne H.da.im.st (by decide)) (H.rc.bk.ne H.da.im.st (by decide)) (H.rc.by_.ne H.da.im.st (by decide)) (H.rc.by_.ne H.da.im.st (by decide))
    exact ⟨rfl, hO, ⟨_, ra1⟩, Al.shutq ⟨hI, da1, H.da.rr, H.da.fx, H.da.yx, H.da.lo, H.da.hi, H.da.la⟩ ⟨hI, dc1, H.dc.rr, H.dc.fx, H.dc.yx, H.dc.lo, H.dc.hi, H.dc.la⟩ ra1 rc1 ha hc H.nd H.nq H.nm H.nb H.ap⟩
  · refine ⟨5, (seal_no H.da.im).mono ?_⟩
    rintro e W1 ⟨rfl, rfl⟩
    exact ⟨rfl, Only.refl _ _, ⟨_, H.ra⟩, Al.shutq H.da H.dc H.ra rc ha hc H.nd H.nq H.nm H.nb H.ap⟩
theorem pr_setbyte (H : Al W p b L B s a c) (i : Nat) (x : UInt8) (hi : i < a.n) (hc : shut a.r s = true) : Calls Try.prog 54 #[.pointer (some ⟨p, 0, none⟩), .int .i64 0, .int .i64 ((a.g + i : Nat) : Int), .int .u8 (x.toNat : Int)] W fun e W1 => e = .returned (.int .i64 5) ∧ W1 = W :=
  setbyte_no H.da.im ((a.g + i : Nat) : Int) x.toNat (by have := H.ra.far; omega) (H.da.nwt hc (a.g + i) 1 (by omega) (by omega))
/-- the document's byte is laid first, then the program's -/
theorem pr_write (H : Al W p b L B s a c) (i : Nat) (x : UInt8) (hi : i < a.n) (hc : shut a.r s = false) : Calls Try.prog 54 #[.pointer (some ⟨p, 0, none⟩), .int .i64 0, .int .i64 ((a.g + i : Nat) : Int), .int .u8 (x.toNat : Int)] (W.setCell ⟨a.m, i, none⟩ (.int .u8 (x.toNat : Int))) fun e W2 => e = .returned (.int .i64 0) ∧ Al W2 p b L (B.set (a.g + i) x) s a c ∧ Only b (W.setCell ⟨a.m, i, none⟩ (.int .u8 (x.toNat : Int))) W2 := by
  have O0 : Onb a.m a.q W (W.setCell ⟨a.m, i, none⟩ (.int .u8 (x.toNat : Int))) := Onb.ofb ((Only.refl a.m W).put i _)
  have q1 := H.ra.bk
  have m1 := H.ra.by_
  have da := H.da.onb O0 (H.da.im.st.ne m1 (by decide)) (H.da.im.st.ne q1 (by decide)) H.nb.1.symm (H.da.im.by_.ne q1 (by decide)) (H.da.bk.ne m1 (by decide)) (H.da.bk.ne q1 (by decide))
  have dc := H.dc.onb O0 (H.da.im.st.ne m1 (by decide)) (H.da.im.st.ne q1 (by decide)) H.nb.1.symm (H.da.im.by_.ne q1 (by decide)) (H.dc.bk.ne m1 (by decide)) (H.dc.bk.ne q1 (by decide))
  have rc := H.rc.onb O0 (H.rc.bk.ne m1 (by decide)) H.nq.symm H.nm.symm (H.rc.by_.ne q1 (by decide))
  have ra := H.ra.set (a.g + i) x (by omega)
  rw [show a.g + i - a.g = i by omega] at ra
  refine (setbyte_yes da.im (a.g + i) x (da.wt hc (a.g + i) 1 (by omega) (by omega) (by omega) 2)).mono ?_
  rintro e W2 ⟨rfl, hI, hO⟩
  have O : Onb b b (W.setCell ⟨a.m, i, none⟩ (.int .u8 (x.toNat : Int))) W2 := Onb.ofb hO
  have hout := outw_set (g := a.g) (n := a.n) B (a.g + i) x (by omega) (by omega)
  have hap := H.ap
  refine ⟨rfl, ⟨da.turn hI hO, dc.turn hI hO, ?_, ?_, H.nd, H.nq, H.nm, H.nb, H.ap⟩, hO⟩
  · exact ra.onb O (ra.bk.ne da.im.by_ (by decide)) (ra.bk.ne da.im.by_ (by decide)) H.nb.1 H.nb.1
  · exact (rc.onb O (rc.bk.ne da.im.by_ (by decide)) (rc.bk.ne da.im.by_ (by decide)) H.nb.2 H.nb.2).turn hout.1 (fun j h1 h2 => hout.2 j (by omega))
end
end Go.Proofs.Ytoaiiimnfgbcaaa

namespace Go.Proofs.Ytoaiiimnfgbcaaa
open Go.RowKit
set_option linter.unusedVariables false
set_option linter.unusedSimpArgs false
/-! chapter 8: the law's World, beside both lists -/
def wdlV (p : Nat) (k t : Ls) (x0 x1 y0 y1 : Int) : Array Value := #[.pointer (some ⟨p, 0, none⟩), .pointer (some ⟨k.d, 0, none⟩), .pointer (some ⟨t.d, 0, none⟩), .pointer (some ⟨k.q, 0, none⟩), .pointer (some ⟨t.q, 0, none⟩), .int .i64 x0, .int .i64 x1, .int .i64 y0, .int .i64 y1]
/-- the World at v (k the kernel's list, t the student's), and that nothing ahead of w has turned -/
structure Sw (w : World) (v p b : Nat) (k t : Ls) (x0 x1 y0 y1 : Int) (W : World) : Prop where
  wl : Bk W v 64 (wdlV p k t x0 x1 y0 y1)
  bel : Below w.heap.size w W
  lo : w.heap.size ≤ v ∧ w.heap.size ≤ b ∧ w.heap.size ≤ p ∧ w.heap.size ≤ k.d ∧ w.heap.size ≤ k.q ∧ w.heap.size ≤ k.m ∧ w.heap.size ≤ t.d ∧ w.heap.size ≤ t.q ∧ w.heap.size ≤ t.m
section
variable {w W W1 : World} {v p b : Nat} {k t a c : Ls} {L : Lay} {B : List UInt8} {s : Bool} {x0 x1 y0 y1 : Int}
theorem Sw.bel' (S : Sw w v p b k t x0 x1 y0 y1 W) (hb : Below W.heap.size W W1) : Sw w v p b k t x0 x1 y0 y1 W1 := ⟨S.wl.kept hb S.wl.lt, S.bel.trans (hb.mono S.bel.size), S.lo⟩
/-- the program's call of the list a, which is the kernel's or the student's -/
theorem Sw.prog (S : Sw w v p b k t x0 x1 y0 y1 W) (D : Dc W a.d p b L a.r (a.g + 8) (a.g + a.n) B false s a.h a.l) (ha : a.d = k.d ∨ a.d = t.d) (O : Onb b a.d W W1) : Sw w v p b k t x0 x1 y0 y1 W1 := by
  have lo := S.lo
  exact ⟨O.bk S.wl (S.wl.ne D.im.by_ (by decide)) (S.wl.ne D.bk (by decide)), S.bel.trans (O.below lo.2.1 (by rcases ha with h | h <;> omega) S.bel.size), S.lo⟩
/-- the document's call -/
theorem Sw.docu (S : Sw w v p b k t x0 x1 y0 y1 W) {cl : Bool} (R : Rd W a.q a.m a.g a.n B cl a.h a.l) (ha : (a.m = k.m ∧ a.q = k.q) ∨ (a.m = t.m ∧ a.q = t.q)) (O : Onb a.m a.q W W1) : Sw w v p b k t x0 x1 y0 y1 W1 := by
  have lo := S.lo
  exact ⟨O.bk S.wl (S.wl.ne R.by_ (by decide)) (S.wl.ne R.bk (by decide)), S.bel.trans (O.below (by rcases ha with ⟨h, _⟩ | ⟨h, _⟩ <;> omega) (by rcases ha with ⟨_, h⟩ | ⟨_, h⟩ <;> omega) S.bel.size), S.lo⟩
end
end Go.Proofs.Ytoaiiimnfgbcaaa

namespace Go.Proofs.Ytoaiiimnfgbcaaa
open Go.RowKit
set_option linter.unusedVariables false
set_option linter.unusedSimpArgs false
/-! chapter 8: what holds in law's does -/
/-- the World; a is the list that is called (the kernel's, if kk is 0) -/
def So (w : World) (v p b kk : Nat) (a c : Ls) (W : World) : Prop := ∃ x0 x1 y0 y1 : Int, (kk = 0 ∧ Sw w v p b a c x0 x1 y0 y1 W) ∨ (kk = 1 ∧ Sw w v p b c a x0 x1 y0 y1 W)
section
variable {w W W1 W2 : World} {v p b kk g : Nat} {a c : Ls} {L : Lay} {B : List UInt8} {s : Bool} {O : Array Value}
theorem So.two (S : So w v p b kk a c W) : kk < 2 := by obtain ⟨x0, x1, y0, y1, ⟨h, _⟩ | ⟨h, _⟩⟩ := S <;> omega
theorem So.swap (S : So w v p b kk a c W) : So w v p b (1 - kk) c a W := by
  obtain ⟨x0, x1, y0, y1, ⟨h, k⟩ | ⟨h, k⟩⟩ := S
  · exact ⟨x0, x1, y0, y1, .inr ⟨by omega, k⟩⟩
  · exact ⟨x0, x1, y0, y1, .inl ⟨by omega, k⟩⟩
theorem So.wl (S : So w v p b kk a c W) : ∃ vs, Bk W v 64 vs := by
  obtain ⟨x0, x1, y0, y1, ⟨h, k⟩ | ⟨h, k⟩⟩ := S
  · exact ⟨_, k.wl⟩
  · exact ⟨_, k.wl⟩
theorem So.below (S : So w v p b kk a c W) : Below w.heap.size w W := by
  obtain ⟨x0, x1, y0, y1, ⟨h, k⟩ | ⟨h, k⟩⟩ := S <;> exact k.bel
theorem So.lo (S : So w v p b kk a c W) : w.heap.size ≤ v ∧ w.heap.size ≤ b ∧ w.heap.size ≤ p ∧ w.heap.size ≤ a.d ∧ w.heap.size ≤ a.q ∧ w.heap.size ≤ a.m ∧ w.heap.size ≤ c.d ∧ w.heap.size ≤ c.q ∧ w.heap.size ≤ c.m := by
  obtain ⟨x0, x1, y0, y1, ⟨h, k⟩ | ⟨h, k⟩⟩ := S <;> have := k.lo <;> omega
theorem So.bel' (S : So w v p b kk a c W) (hb : Below W.heap.size W W1) : So w v p b kk a c W1 := by
  obtain ⟨x0, x1, y0, y1, ⟨h, k⟩ | ⟨h, k⟩⟩ := S
  · exact ⟨x0, x1, y0, y1, .inl ⟨h, k.bel' hb⟩⟩
  · exact ⟨x0, x1, y0, y1, .inr ⟨h, k.bel' hb⟩⟩
theorem So.prog (S : So w v p b kk a c W) (D : Dc W a.d p b L a.r (a.g + 8) (a.g + a.n) B false s a.h a.l) (O : Onb b a.d W W1) : So w v p b kk a c W1 := by
  obtain ⟨x0, x1, y0, y1, ⟨h, k⟩ | ⟨h, k⟩⟩ := S
  · exact ⟨x0, x1, y0, y1, .inl ⟨h, k.prog D (.inl rfl) O⟩⟩
  · exact ⟨x0, x1, y0, y1, .inr ⟨h, k.prog D (.inr rfl) O⟩⟩
theorem So.docu (S : So w v p b kk a c W) {cl : Bool} (R : Rd W a.q a.m a.g a.n B cl a.h a.l) (O : Onb a.m a.q W W1) : So w v p b kk a c W1 := by
  obtain ⟨x0, x1, y0, y1, ⟨h, k⟩ | ⟨h, k⟩⟩ := S
  · exact ⟨x0, x1, y0, y1, .inl ⟨h, k.docu R (.inl ⟨rfl, rfl⟩) O⟩⟩
  · exact ⟨x0, x1, y0, y1, .inr ⟨h, k.docu R (.inr ⟨rfl, rfl⟩) O⟩⟩
theorem So.turnh (S : So w v p b kk a c W) (h' l' : Nat) : So w v p b kk { a with h := h', l := l' } c W := by
  obtain ⟨x0, x1, y0, y1, ⟨h, k⟩ | ⟨h, k⟩⟩ := S
  · exact ⟨x0, x1, y0, y1, .inl ⟨h, ⟨k.wl, k.bel, k.lo⟩⟩⟩
  · exact ⟨x0, x1, y0, y1, .inr ⟨h, ⟨k.wl, k.bel, k.lo⟩⟩⟩
theorem So.c0 (S : So w v p b kk a c W) : W.cell? ⟨v, 0, none⟩ = some (.pointer (some ⟨p, 0, none⟩)) := by
  obtain ⟨x0, x1, y0, y1, ⟨h, k⟩ | ⟨h, k⟩⟩ := S <;> exact k.wl.cell 0
theorem So.c1 (S : So w v p b kk a c W) : W.cell? ⟨v, 1 + kk, none⟩ = some (.pointer (some ⟨a.d, 0, none⟩)) := by
  obtain ⟨x0, x1, y0, y1, ⟨rfl, k⟩ | ⟨rfl, k⟩⟩ := S
  · exact k.wl.cell 1
  · exact k.wl.cell 2
theorem So.c3 (S : So w v p b kk a c W) : W.cell? ⟨v, 3 + kk, none⟩ = some (.pointer (some ⟨a.q, 0, none⟩)) := by
  obtain ⟨x0, x1, y0, y1, ⟨rfl, k⟩ | ⟨rfl, k⟩⟩ := S
  · exact k.wl.cell 3
  · exact k.wl.cell 4
theorem So.c5 (S : So w v p b kk a c W) : ∃ x : Int, W.cell? ⟨v, 5 + kk, none⟩ = some (.int .i64 x) := by
  obtain ⟨x0, x1, y0, y1, ⟨rfl, k⟩ | ⟨rfl, k⟩⟩ := S
  · exact ⟨_, k.wl.cell 5⟩
  · exact ⟨_, k.wl.cell 6⟩
theorem So.c7 (S : So w v p b kk a c W) : ∃ x : Int, W.cell? ⟨v, 7 + kk, none⟩ = some (.int .i64 x) := by
  obtain ⟨x0, x1, y0, y1, ⟨rfl, k⟩ | ⟨rfl, k⟩⟩ := S
  · exact ⟨_, k.wl.cell 7⟩
  · exact ⟨_, k.wl.cell 8⟩
theorem So.free (S : So w v p b kk a c W) (i : Nat) : W.frozen? ⟨v, i, none⟩ = false := by obtain ⟨vs, h⟩ := S.wl; exact h.free i
theorem So.put5 (S : So w v p b kk a c W) (x : Int) : So w v p b kk a c (W.setCell ⟨v, 5 + kk, none⟩ (.int .i64 x)) := by
  obtain ⟨x0, x1, y0, y1, ⟨rfl, k⟩ | ⟨rfl, k⟩⟩ := S
  · exact ⟨x, x1, y0, y1, .inl ⟨rfl, ⟨k.wl.put 5 _, k.bel.setCell (p := ⟨v, 5 + 0, none⟩) k.lo.1 _, k.lo⟩⟩⟩
  · exact ⟨x0, x, y0, y1, .inr ⟨rfl, ⟨k.wl.put 6 _, k.bel.setCell (p := ⟨v, 5 + 1, none⟩) k.lo.1 _, k.lo⟩⟩⟩
theorem So.put7 (S : So w v p b kk a c W) (x : Int) : So w v p b kk a c (W.setCell ⟨v, 7 + kk, none⟩ (.int .i64 x)) := by
  obtain ⟨x0, x1, y0, y1, ⟨rfl, k⟩ | ⟨rfl, k⟩⟩ := S
  · exact ⟨x0, x1, x, y1, .inl ⟨rfl, ⟨k.wl.put 7 _, k.bel.setCell (p := ⟨v, 7 + 0, none⟩) k.lo.1 _, k.lo⟩⟩⟩
  · exact ⟨x0, x1, y0, x, .inr ⟨rfl, ⟨k.wl.put 8 _, k.bel.setCell (p := ⟨v, 7 + 1, none⟩) k.lo.1 _, k.lo⟩⟩⟩
/-- all that holds: both lists, the World, the Op's box -/
structure Ss (w : World) (v p b kk g : Nat) (L : Lay) (B : List UInt8) (s : Bool) (a c : Ls) (O : Array Value) (W : World) : Prop where
  al : Al W p b L B s a c
  so : So w v p b kk a c W
  bx : Bk W g 58 O
theorem Ss.enter (al : Al W p b L B s a c) (so : So w v p b kk a c W) (O : Array Value) : Ss w v p b kk W.heap.size L B s a c O (W.alloc (.cells O 58)) := by
  have hb : Below W.heap.size W (W.alloc (.cells O 58)) := (Below.refl _ _).alloc (Nat.le_refl _) _
  exact ⟨al.bel hb, so.bel' hb, Bk.fresh _ _ _⟩
theorem Ss.bel (X : Ss w v p b kk g L B s a c O W) (hb : Below W.heap.size W W1) : Ss w v p b kk g L B s a c O W1 := ⟨X.al.bel hb, X.so.bel' hb, X.bx.kept hb X.bx.lt⟩
theorem Ss.draws (X : Ss w v p b kk g L B s a c O W) (n : Nat) : Ss w v p b kk g L B s a c O (W.drewN n) := X.bel (below_drawn (Below.refl _ _) n)
theorem Ss.draw (X : Ss w v p b kk g L B s a c O W) : Ss w v p b kk g L B s a c O W.drew := X.draws 1
/-- a call of each, in either order -/
theorem Ss.pair (X : Ss w v p b kk g L B s a c O W) {F G : FuncId} {A A' : Array Value} {u u' : Value} (P : Prd W p b L s a c F A u G A' u') :
    (Calls Try.prog F A W fun e W1 => e = .returned u ∧ Bk W1 g 58 O ∧ Calls Try.prog G A' W1 fun e W2 => e = .returned u' ∧ Bk W2 g 58 O ∧ ∃ B' h' l', Ss w v p b kk g L B' s { a with h := h', l := l' } c O W2) ∧
    (Calls Try.prog G A' W fun e W1 => e = .returned u' ∧ Bk W1 g 58 O ∧ Calls Try.prog F A W1 fun e W2 => e = .returned u ∧ Bk W2 g 58 O ∧ ∃ B' h' l', Ss w v p b kk g L B' s { a with h := h', l := l' } c O W2) := by
  have H := X.al
  have n1 := X.bx.ne H.da.im.by_ (by decide)
  have n2 := X.bx.ne H.da.bk (by decide)
  have n3 := X.bx.ne H.ra.by_ (by decide)
  have n4 := X.bx.ne H.ra.bk (by decide)
  constructor
  · refine P.1.mono ?_
    rintro e W1 ⟨rfl, O1, hG⟩
    refine ⟨rfl, O1.bk X.bx n1 n2, hG.mono ?_⟩
    rintro e W2 ⟨rfl, O2, B', h', l', H'⟩
    have S1 := X.so.prog H.da O1
    have S2 := S1.docu (H.mid O1) O2
    exact ⟨rfl, O2.bk (O1.bk X.bx n1 n2) n3 n4, B', h', l', H', S2.turnh h' l', O2.bk (O1.bk X.bx n1 n2) n3 n4⟩
  · refine P.2.mono ?_
    rintro e W1 ⟨rfl, O1, hG⟩
    refine ⟨rfl, O1.bk X.bx n3 n4, hG.mono ?_⟩
    rintro e W2 ⟨rfl, O2, B', h', l', H'⟩
    have S1 := X.so.docu H.ra O1
    have S2 := S1.prog (H.midd O1).1 O2
    exact ⟨rfl, O2.bk (O1.bk X.bx n3 n4) n1 n2, B', h', l', H', S2.turnh h' l', O2.bk (O1.bk X.bx n3 n4) n1 n2⟩
/-- what does leaves -/
def Dn (w : World) (v p b kk : Nat) (L : Lay) (a c : Ls) (W : World) : Prop := ∃ s B h l, Al W p b L B s { a with h := h, l := l } c ∧ So w v p b kk a c W
theorem Ss.dn {h l : Nat} (X : Ss w v p b kk g L B s { a with h := h, l := l } c O W) : Dn w v p b kk L a c W := ⟨s, B, h, l, X.al, X.so.turnh a.h a.l⟩
end
end Go.Proofs.Ytoaiiimnfgbcaaa
