import Derived.Test.YtbhgjjicmbbjaaaDoorTrZd
import Derived.Test.YtbhgjjicmbbjaaaDoorTrZe
import Derived.Test.YtbhgjjicmbbjaaaDoorTrP
import Derived.Test.YtbhgjjicmbbjaaaDoorTrQ
namespace Go.Proofs.YtbhgjjicmbbjaaaDoor
open Go.RowKit
set_option linter.unusedVariables false
set_option linter.unusedSimpArgs false
/-! ScriptReads -/
def Rd.lst {X : Type} : Rd X → List X
  | .got l => l
  | .bad _ _ => []
def Rd.er {X : Type} : Rd X → Int
  | .got _ => 0
  | .bad e _ => e
def Rd.at_ {X : Type} : Rd X → Nat
  | .got _ => 0
  | .bad _ k => k
theorem readS_short {X : Type} {ok : X → Bool} {bd : X → List UInt8} (s : List UInt8) : (readS ok bd s).lst.length ≤ 32 := by
  cases h : readS ok bd s with
  | got l => exact (readN_got 32 1 s l h).2.2
  | bad e k => exact Nat.zero_le _
theorem puA_of {w w' : World} {v : Value} {R : Rd Pu} (h : puA w w' v R) : ∃ A c, v = .tuple #[.slice A R.lst.length c, .int .i64 R.er, .int .i64 (R.at_ : Int)] ∧ PuRow w' A R.lst := by
  cases R with
  | got l =>
    obtain ⟨A, c, rfl, hown⟩ := h
    exact ⟨A, c, rfl, puRow_own hown rfl⟩
  | bad e k =>
    unfold puA at h
    exact ⟨none, 0, h, fun i x hx => by cases hx⟩
theorem puB_of {w' : World} {v : Value} {R : Rd Pu} (h : puB w' v R) : ∃ A c, v = .tuple #[.slice A R.lst.length c, .int .i64 R.er, .int .i64 (R.at_ : Int)] ∧ PuRow w' A R.lst := by
  cases R with
  | got l =>
    obtain ⟨A, c, rfl, hown⟩ := h
    exact ⟨A, c, rfl, hown⟩
  | bad e k =>
    unfold puB at h
    exact ⟨none, 0, h, fun i x hx => by cases hx⟩
theorem prA_of {w w' : World} {v : Value} {R : Rd Pr} (h : prA w w' v R) : ∃ A c, v = .tuple #[.slice A R.lst.length c, .int .i64 R.er, .int .i64 (R.at_ : Int)] ∧ PrRow w' A R.lst := by
  cases R with
  | got l =>
    obtain ⟨A, c, rfl, hown⟩ := h
    exact ⟨A, c, rfl, prRow_own hown rfl⟩
  | bad e k =>
    unfold prA at h
    exact ⟨none, 0, h, fun i x hx => by cases hx⟩
theorem prB_of {w' : World} {v : Value} {R : Rd Pr} (h : prB w' v R) : ∃ A c, v = .tuple #[.slice A R.lst.length c, .int .i64 R.er, .int .i64 (R.at_ : Int)] ∧ PrRow w' A R.lst := by
  cases R with
  | got l =>
    obtain ⟨A, c, rfl, hown⟩ := h
    exact ⟨A, c, rfl, hown⟩
  | bad e k =>
    unfold prB at h
    exact ⟨none, 0, h, fun i x hx => by cases hx⟩
structure TwoPu (w0 : World) (A1 A2 : Option Addr) (P : List Pu) (W : World) : Prop where
  a : PuRow W A1 P
  b : PuRow W A2 P
  bl : Below w0.heap.size w0 W
structure TwoPr (w0 : World) (A1 A2 : Option Addr) (P : List Pr) (W : World) : Prop where
  a : PrRow W A1 P
  b : PrRow W A2 P
  bl : Below w0.heap.size w0 W
theorem TwoPu.draws {w0 W : World} {A1 A2 : Option Addr} {P : List Pu} (h : TwoPu w0 A1 A2 P W) (n : Nat) : TwoPu w0 A1 A2 P (W.drewN n) := by
  have hb : Below W.heap.size W (W.drewN n) := ⟨rfl, rfl, rfl, Nat.le_refl _, fun _ _ => rfl⟩
  exact ⟨h.a.bel hb, h.b.bel hb, h.bl.trans (hb.mono h.bl.size)⟩
theorem TwoPr.draws {w0 W : World} {A1 A2 : Option Addr} {P : List Pr} (h : TwoPr w0 A1 A2 P W) (n : Nat) : TwoPr w0 A1 A2 P (W.drewN n) := by
  have hb : Below W.heap.size W (W.drewN n) := ⟨rfl, rfl, rfl, Nat.le_refl _, fun _ _ => rfl⟩
  exact ⟨h.a.bel hb, h.b.bel hb, h.bl.trans (hb.mono h.bl.size)⟩
set_option maxRecDepth 100000 in
set_option maxHeartbeats 8000000 in
theorem walk_reads (s : ByteArray) (w : World) (hM : Mk w) (hsz : s.size ≤ maxLen) : Calls Tryd.prog 8 #[.string s] w fun e w' => e = .returned (.bool true) ∧ Below w.heap.size w w' := by
  have hsh := Lib.hid (shown_any w hM)
  have hlg := Lib.hid (fun W => long_any (s.size : Int) W)
  by_cases hl : 200000 < s.size
  · have hlI : (200000 : Int) < (s.size : Int) := by omega
    have hd : decide ((200000 : Int) < (s.size : Int)) = true := by simp; omega
    rw [hd] at hlg
    clear hM hsz hl hd
    go_enter Tryd.func8, Tryd.ntmps8
    go_wp2_with (fail)
    refine hsh.out.mono ?_
    rintro e w1 ⟨rfl, hb⟩
    replace hb := Lib.hid hb
    go_wp2_with (fail)
    refine (hlg.out _).mono ?_
    rintro e w2 ⟨rfl, rfl⟩
    go_wp2_with (fail)
    go_returns
    exact ⟨rfl, hb.out⟩
  have hd : decide ((200000 : Int) < (s.size : Int)) = false := by simp; omega
  rw [hd] at hlg
  have h1 := readS_short (ok := puOk) (bd := puL) s.data.toList
  have h2 := readS_short (ok := prOk) (bd := prL) s.data.toList
  have q1 := fun W (hb : Below w.heap.size w W) => (ReadPublic_any s (by omega) W (hM.bel hb)).mono (R' := fun e w' => (∃ A c, e = .returned (.tuple #[.slice A (readS puOk puL s.data.toList).lst.length c, .int .i64 (readS puOk puL s.data.toList).er, .int .i64 ((readS puOk puL s.data.toList).at_ : Int)]) ∧ PuRow w' A (readS puOk puL s.data.toList).lst) ∧ Below W.heap.size W w') (fun e w' ⟨⟨v, he, hv⟩, hb⟩ => by
    obtain ⟨A, c, rfl, hr⟩ := puA_of hv
    exact ⟨⟨A, c, he, hr⟩, hb⟩)
  have q2 := fun W => (RReadPublic_any s (by omega) W).mono (R' := fun e w' => (∃ A c, e = .returned (.tuple #[.slice A (readS puOk puL s.data.toList).lst.length c, .int .i64 (readS puOk puL s.data.toList).er, .int .i64 ((readS puOk puL s.data.toList).at_ : Int)]) ∧ PuRow w' A (readS puOk puL s.data.toList).lst) ∧ Below W.heap.size W w') (fun e w' ⟨⟨v, he, hv⟩, hb⟩ => by
    obtain ⟨A, c, rfl, hr⟩ := puB_of hv
    exact ⟨⟨A, c, he, hr⟩, hb⟩)
  have q3 := fun W (hb : Below w.heap.size w W) => (ReadPrivate_any s (by omega) W (hM.bel hb)).mono (R' := fun e w' => (∃ A c, e = .returned (.tuple #[.slice A (readS prOk prL s.data.toList).lst.length c, .int .i64 (readS prOk prL s.data.toList).er, .int .i64 ((readS prOk prL s.data.toList).at_ : Int)]) ∧ PrRow w' A (readS prOk prL s.data.toList).lst) ∧ Below W.heap.size W w') (fun e w' ⟨⟨v, he, hv⟩, hb⟩ => by
    obtain ⟨A, c, rfl, hr⟩ := prA_of hv
    exact ⟨⟨A, c, he, hr⟩, hb⟩)
  have q4 := fun W => (RReadPrivate_any s (by omega) W).mono (R' := fun e w' => (∃ A c, e = .returned (.tuple #[.slice A (readS prOk prL s.data.toList).lst.length c, .int .i64 (readS prOk prL s.data.toList).er, .int .i64 ((readS prOk prL s.data.toList).at_ : Int)]) ∧ PrRow w' A (readS prOk prL s.data.toList).lst) ∧ Below W.heap.size W w') (fun e w' ⟨⟨v, he, hv⟩, hb⟩ => by
    obtain ⟨A, c, rfl, hr⟩ := prB_of hv
    exact ⟨⟨A, c, he, hr⟩, hb⟩)
  obtain ⟨P, hP⟩ : ∃ P, (readS puOk puL s.data.toList).lst = P := ⟨_, rfl⟩
  obtain ⟨E1, hE1⟩ : ∃ P, (readS puOk puL s.data.toList).er = P := ⟨_, rfl⟩
  obtain ⟨K1, hK1⟩ : ∃ P, (readS puOk puL s.data.toList).at_ = P := ⟨_, rfl⟩
  obtain ⟨Q, hQ⟩ : ∃ P, (readS prOk prL s.data.toList).lst = P := ⟨_, rfl⟩
  obtain ⟨E2, hE2⟩ : ∃ P, (readS prOk prL s.data.toList).er = P := ⟨_, rfl⟩
  obtain ⟨K2, hK2⟩ : ∃ P, (readS prOk prL s.data.toList).at_ = P := ⟨_, rfl⟩
  simp only [hP, hE1, hK1] at q1 q2 h1
  simp only [hQ, hE2, hK2] at q3 q4 h2
  obtain ⟨n1, hn1⟩ : ∃ n, P.length = n := ⟨_, rfl⟩
  obtain ⟨n2, hn2⟩ : ∃ n, Q.length = n := ⟨_, rfl⟩
  simp only [hn1] at q1 q2 h1
  simp only [hn2] at q3 q4 h2
  have hlI : ¬ (200000 : Int) < (s.size : Int) := by omega
  have n1I : (n1 : Int) ≤ 32 := by omega
  have n2I : (n2 : Int) ≤ 32 := by omega
  replace q1 := Lib.hid q1
  replace q2 := Lib.hid q2
  replace q3 := Lib.hid q3
  replace q4 := Lib.hid q4
  replace hn1 := Lib.hid hn1
  replace hn2 := Lib.hid hn2
  clear hM hsz hl hd hP hE1 hK1 hQ hE2 hK2
  go_enter Tryd.func8, Tryd.ntmps8
  go_wp2_with (fail)
  refine hsh.out.mono ?_
  rintro e w1 ⟨rfl, hb⟩
  have hB := Lib.hid hb
  clear hb hsh
  go_wp2_with (fail)
  refine (hlg.out _).mono ?_
  rintro e w2_ ⟨rfl, hw2⟩
  have hw2 := hw2.symm
  subst hw2
  clear hlg
  go_wp2_with (fail)
  refine (q1.out _ hB.out).mono ?_
  rintro e w3 ⟨⟨A1, c1, rfl, r1⟩, hb⟩
  have hZ := Lib.hid (And.intro r1 (hB.out.trans (hb.mono hB.out.size)))
  clear hb q1 r1 hB
  go_wp2_with (fail)
  refine (q2.out _).mono ?_
  rintro e w4 ⟨⟨A2, c2, rfl, r2⟩, hb⟩
  replace hZ := Lib.hid (⟨hZ.out.1.bel hb, r2, hZ.out.2.trans (hb.mono hZ.out.2.size)⟩ : TwoPu w A1 A2 P w4)
  clear hb q2 r2
  go_wp2_with (fail)
  go_loopw [11] (fun x11 wr => ∃ k : Nat, x11 = .int .i64 k ∧ k ≤ n1 ∧ Hid (TwoPu w A1 A2 P wr)) (fun x11 _ => n1 - (intOf x11).toNat)
  case atStart => exact ⟨0, rfl, Nat.zero_le _, hZ⟩
  case round =>
    obtain ⟨k, rfl, hk0, hF⟩ := hrel
    clear hZ
    by_cases hk : k < n1
    · have hk' : (k : Int) < (n1 : Int) := by omega
      obtain ⟨x, hx⟩ : ∃ x, P[k]? = some x := ⟨_, List.getElem?_eq_getElem (by rw [hn1.out]; exact hk)⟩
      obtain ⟨b1, o1, rfl, l1, s0, s1, s2⟩ := hF.out.a k x hx
      obtain ⟨b3, o3, rfl, l3, u0, u1, u2⟩ := hF.out.b k x hx
      obtain ⟨X0, X1, X2⟩ := x
      simp only at s0 s1 s2 u0 u1 u2
      clear hx l1 l3
      go_wp2_with (fail)
      go_quiet (fail)
      go_wp2_with (fail)
      exact ⟨⟨k + 1, rfl, by omega, Lib.hid (hF.out.draws _)⟩, by simp [intOf]; omega⟩
    · have hk' : ¬ (k : Int) < (n1 : Int) := by omega
      clear hk
      go_wp2_with (fail)
      refine (q3.out _ hF.out.bl).mono ?_
      rintro e w5 ⟨⟨A3, c3, rfl, r1⟩, hb⟩
      have hZ := Lib.hid (And.intro r1 (hF.out.bl.trans (hb.mono hF.out.bl.size)))
      clear hb q3 r1 hF
      go_wp2_with (fail)
      refine (q4.out _).mono ?_
      rintro e w6 ⟨⟨A4, c4, rfl, r2⟩, hb⟩
      replace hZ := Lib.hid (⟨hZ.out.1.bel hb, r2, hZ.out.2.trans (hb.mono hZ.out.2.size)⟩ : TwoPr w A3 A4 Q w6)
      clear hb q4 r2
      go_wp2_with (fail)
      go_loopw [14] (fun x14 wr => ∃ k : Nat, x14 = .int .i64 k ∧ k ≤ n2 ∧ Hid (TwoPr w A3 A4 Q wr)) (fun x14 _ => n2 - (intOf x14).toNat)
      case atStart => exact ⟨0, rfl, Nat.zero_le _, hZ⟩
      case round =>
        obtain ⟨k, rfl, hk0, hF⟩ := hrel
        clear hZ
        by_cases hk : k < n2
        · have hk' : (k : Int) < (n2 : Int) := by omega
          obtain ⟨y, hy⟩ : ∃ x, Q[k]? = some x := ⟨_, List.getElem?_eq_getElem (by rw [hn2.out]; exact hk)⟩
          obtain ⟨b2, o2, rfl, l2, t0, t1, t2, t3, t4⟩ := hF.out.a k y hy
          obtain ⟨b4, o4, rfl, l4, v0, v1, v2, v3, v4⟩ := hF.out.b k y hy
          obtain ⟨Y0, Y1, Y2, Y3, Y4⟩ := y
          simp only at t0 t1 t2 t3 t4 v0 v1 v2 v3 v4
          clear hy l2 l4
          go_wp2_with (fail)
          go_quiet (fail)
          go_wp2_with (fail)
          exact ⟨⟨k + 1, rfl, by omega, Lib.hid (hF.out.draws _)⟩, by simp [intOf]; omega⟩
        · have hk' : ¬ (k : Int) < (n2 : Int) := by omega
          clear hk
          go_wp2_with (fail)
          go_returns
          exact ⟨rfl, hF.out.bl⟩
end Go.Proofs.YtbhgjjicmbbjaaaDoor
