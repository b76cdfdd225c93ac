import Derived.Test.YtndgcndmkfjdgaaDoorPpA
namespace Go.Proofs.YtndgcndmkfjdgaaDoor
open Go.RowKit Go.Extern.Stop Go.Stop Go.Extern
set_option linter.unusedVariables false
set_option linter.unusedSimpArgs false
/-! PlanePlays: two turtles of each kind side by side -/
structure St where
  a : Pt
  v : Pt
  dn : Bool
  ms : List Mk
def TtS (W : World) (g t : Nat) (V : Value) (s : St) : Prop := Tt W g t V s.a s.v s.dn s.ms
def RtS (W : World) (g r : Nat) (U : Value) (s : St) : Prop := Rt_ W g r U s.a s.v s.dn s.ms
theorem own_lt {W : World} {base n size : Nat} {e : TypeId} {v : Value} {xs : List Value} (h : W.ownsRow base e size v n xs) : ∀ k, v.ownBlock = some k → k < W.heap.size := by
  intro k hk
  rcases h.2 with ⟨rfl, _⟩ | ⟨g, cap, cur, rfl, _, hg, _⟩
  · simp [Value.ownBlock] at hk
  · simp [Value.ownBlock] at hk
    subst hk
    exact (Array.getElem?_eq_some_iff.1 hg).1
theorem own_trd {W W' : World} {t base size n : Nat} {row : Option Nat} {e : TypeId} {v : Value} {xs : List Value} (h : W.ownsRow base e size v n xs) (ho : Trd t row W W') (hg : v.ownBlock ≠ some t) (hr : ∀ k, v.ownBlock = some k → row ≠ some k) : W'.ownsRow base e size v n xs := by
  refine ⟨h.1, ?_⟩
  rcases h.2 with hn | ⟨k, cap, cur, rfl, hb, hgg, rest⟩
  · exact .inl hn
  · refine .inr ⟨k, cap, cur, rfl, hb, ?_, rest⟩
    rw [ho.block k (Array.getElem?_eq_some_iff.1 hgg).1 (by simpa [Value.ownBlock] using hg) (by have := hr k (by simp [Value.ownBlock]); exact fun e => this e.symm)]
    exact hgg
/-- whatever rows of other elements are, they are elsewhere -/
theorem own_else {W : World} {b b' n n' size size' : Nat} {e e' : TypeId} {v v' : Value} {xs ys : List Value} (h : W.ownsRow b e size v n xs) (h' : W.ownsRow b' e' size' v' n' ys) (hne : e ≠ e') : ∀ k, v.ownBlock = some k → v'.ownBlock ≠ some k := fun k hk e1 => by
  rcases own_far h h' hne with h1 | h1
  · rw [h1] at hk; cases hk
  · exact h1 (hk.trans e1.symm)
structure Fo (W : World) (g x y : Nat) (X Y : Array Value) (t r t' r' : Nat) (V U V' U' : Value) (s q s' q' : St) : Prop where
  p5 : Bk W x 39 X
  p6 : Bk W y 50 Y
  p1 : TtS W g t V s
  p2 : RtS W g r U q
  p3 : TtS W g t' V' s'
  p4 : RtS W g r' U' q'
  d1 : t ≠ t'
  d2 : r ≠ r'
  d3 : ∀ k, V.ownBlock = some k → V'.ownBlock ≠ some k
  d4 : ∀ k, U.ownBlock = some k → U'.ownBlock ≠ some k
  g1 : g ≤ t
  g2 : g ≤ r
  g3 : g ≤ t'
  g4 : g ≤ r'
section
variable {W W' : World} {g x y t r t' r' : Nat} {X Y : Array Value} {V U V' U' V2 U2 : Value} {s q s' q' s2 q2 : St}
theorem Fo.bel (F : Fo W g x y X Y t r t' r' V U V' U' s q s' q') (hb : Below W.heap.size W W') : Fo W' g x y X Y t r t' r' V U V' U' s q s' q' :=
  ⟨F.p5.kept hb F.p5.lt, F.p6.kept hb F.p6.lt, Tt.bel F.p1 hb, Rt_.bel F.p2 hb, Tt.bel F.p3 hb, Rt_.bel F.p4 hb, F.d1, F.d2, F.d3, F.d4, F.g1, F.g2, F.g3, F.g4⟩
theorem Fo.draw (F : Fo W g x y X Y t r t' r' V U V' U' s q s' q') : Fo W.drew g x y X Y t r t' r' V U V' U' s q s' q' :=
  ⟨F.p5.draw, F.p6.draw, Tt.draw F.p1, Rt_.draw F.p2, Tt.draw F.p3, Rt_.draw F.p4, F.d1, F.d2, F.d3, F.d4, F.g1, F.g2, F.g3, F.g4⟩
theorem Fo.swap (F : Fo W g x y X Y t r t' r' V U V' U' s q s' q') : Fo W g x y X Y t' r' t r V' U' V U s' q' s q :=
  ⟨F.p5, F.p6, F.p3, F.p4, F.p1, F.p2, F.d1.symm, F.d2.symm, fun k hk e => F.d3 k e hk, fun k hk e => F.d4 k e hk, F.g3, F.g4, F.g1, F.g2⟩
theorem Fo.prog (F : Fo W g x y X Y t r t' r' V U V' U' s q s' q') (hT : Trd t V.ownBlock W W') (T2 : TtS W' g t V2 s2) (hn : V2.ownBlock = V.ownBlock ∨ ∀ k, V2.ownBlock = some k → W.heap.size ≤ k) : Fo W' g x y X Y t r t' r' V2 U V' U' s2 q s' q' := by
  refine ⟨hT.bk F.p5 (Bk.ne F.p5 F.p1.bk (by decide)) (own_ne_bk F.p1.row F.p5 (by decide)).symm, hT.bk F.p6 (Bk.ne F.p6 F.p1.bk (by decide)) (own_ne_bk F.p1.row F.p6 (by decide)).symm, T2, ?_, ?_, ?_, F.d1, F.d2, ?_, F.d4, F.g1, F.g2, F.g3, F.g4⟩
  · exact ⟨hT.bk F.p2.bk (Bk.ne F.p2.bk F.p1.bk (by decide)) (own_ne_bk F.p1.row F.p2.bk (by decide)).symm, own_trd F.p2.row hT (own_ne_bk F.p2.row F.p1.bk (by decide)) (own_else F.p2.row F.p1.row (by decide))⟩
  · have hr := own_trd F.p3.row hT (own_ne_bk F.p3.row F.p1.bk (by decide)) (fun k hk e => F.d3 k e hk)
    exact ⟨hT.bk F.p3.bk F.d1.symm (own_ne_bk F.p1.row F.p3.bk (by decide)).symm, hr, F.p3.sa, F.p3.un, F.p3.ok, F.p3.le⟩
  · exact ⟨hT.bk F.p4.bk (Bk.ne F.p4.bk F.p1.bk (by decide)) (own_ne_bk F.p1.row F.p4.bk (by decide)).symm, own_trd F.p4.row hT (own_ne_bk F.p4.row F.p1.bk (by decide)) (own_else F.p4.row F.p1.row (by decide))⟩
  · intro k hk e
    rcases hn with h1 | h1
    · exact F.d3 k (h1 ▸ hk) e
    · have a := h1 k hk
      have b := own_lt F.p3.row k e
      omega
theorem Fo.doc (F : Fo W g x y X Y t r t' r' V U V' U' s q s' q') (hT : Trd r U.ownBlock W W') (T2 : RtS W' g r U2 q2) (hn : U2.ownBlock = U.ownBlock ∨ ∀ k, U2.ownBlock = some k → W.heap.size ≤ k) : Fo W' g x y X Y t r t' r' V U2 V' U' s q2 s' q' := by
  refine ⟨hT.bk F.p5 (Bk.ne F.p5 F.p2.bk (by decide)) (own_ne_bk F.p2.row F.p5 (by decide)).symm, hT.bk F.p6 (Bk.ne F.p6 F.p2.bk (by decide)) (own_ne_bk F.p2.row F.p6 (by decide)).symm, ?_, T2, ?_, ?_, F.d1, F.d2, F.d3, ?_, F.g1, F.g2, F.g3, F.g4⟩
  · have hr := own_trd F.p1.row hT (own_ne_bk F.p1.row F.p2.bk (by decide)) (own_else F.p1.row F.p2.row (by decide))
    exact ⟨hT.bk F.p1.bk (Bk.ne F.p1.bk F.p2.bk (by decide)) (own_ne_bk F.p2.row F.p1.bk (by decide)).symm, hr, F.p1.sa, F.p1.un, F.p1.ok, F.p1.le⟩
  · have hr := own_trd F.p3.row hT (own_ne_bk F.p3.row F.p2.bk (by decide)) (own_else F.p3.row F.p2.row (by decide))
    exact ⟨hT.bk F.p3.bk (Bk.ne F.p3.bk F.p2.bk (by decide)) (own_ne_bk F.p2.row F.p3.bk (by decide)).symm, hr, F.p3.sa, F.p3.un, F.p3.ok, F.p3.le⟩
  · exact ⟨hT.bk F.p4.bk F.d2.symm (own_ne_bk F.p2.row F.p4.bk (by decide)).symm, own_trd F.p4.row hT (own_ne_bk F.p4.row F.p2.bk (by decide)) (fun k hk e => F.d4 k e hk)⟩
  · intro k hk e
    rcases hn with h1 | h1
    · exact F.d4 k (h1 ▸ hk) e
    · have a := h1 k hk
      have b := own_lt F.p4.row k e
      omega
/-- what one call of Forward does to the first of the program's -/
def FwdP (c : Int) (s s2 : St) (n : Int) : Prop := ∀ (w : World) (g x y : Nat) (X Y : Array Value) (t r t' r' : Nat) (V U V' U' : Value) (q s' q' : St), Fo w g x y X Y t r t' r' V U V' U' s q s' q' → g ≤ w.heap.size → Calls Tryd.prog 21 #[.pointer (some ⟨t, 0, none⟩), .int .i64 n] w fun e w' => e = .returned (.int .i64 c) ∧ ∃ V2, Fo w' g x y X Y t r t' r' V2 U V' U' s2 q s' q' ∧ Below g w w'
def FwdD (c : Int) (q q2 : St) (n : Int) : Prop := ∀ (w : World) (g x y : Nat) (X Y : Array Value) (t r t' r' : Nat) (V U V' U' : Value) (s s' q' : St), Fo w g x y X Y t r t' r' V U V' U' s q s' q' → g ≤ w.heap.size → Calls Tryd.prog 27 #[.pointer (some ⟨r, 0, none⟩), .int .i64 n] w fun e w' => e = .returned (.int .i64 c) ∧ ∃ U2, Fo w' g x y X Y t r t' r' V U2 V' U' s q2 s' q' ∧ Below g w w'
theorem fwd_both (s : St) (sa : Sm s.a 16777216) (un : Unit4 s.v) (hl : s.ms.length ≤ 4096) (n : Int) : ∃ (c : Int) (s2 : St), FwdP c s s2 n ∧ FwdD c s s2 n := by
  obtain ⟨a, v, dn, ms⟩ := s
  simp only at sa un hl
  by_cases h1 : Sm (toZ a v n) 16777216
  · by_cases h2 : dn = false ∨ n = 0
    · refine ⟨0, ⟨toZ a v n, v, dn, ms⟩, ?_, ?_⟩
      · intro w g x y X Y t r t' r' V U V' U' q s' q' F hg
        refine (tfwd_go F.p1 n h1 h2).mono ?_
        rintro e w' ⟨rfl, T2, hT⟩
        exact ⟨rfl, V, F.prog hT T2 (.inl rfl), hT.below F.g1 (own_ge F.p1.row) hg⟩
      · intro w g x y X Y t r t' r' V U V' U' s s' q' F hg
        refine (rfwd_go F.p2 sa un n h1 h2).mono ?_
        rintro e w' ⟨rfl, T2, hT⟩
        exact ⟨rfl, U, F.doc hT T2 (.inl rfl), hT.below F.g2 (own_ge F.p2.row) hg⟩
    · obtain ⟨h3, h4⟩ := not_or.1 h2
      have hd : dn = true := by cases dn <;> simp_all
      subst hd
      by_cases h5 : ms.length = 4096
      · refine ⟨3, ⟨a, v, true, ms⟩, ?_, ?_⟩
        · intro w g x y X Y t r t' r' V U V' U' q s' q' F hg
          refine (tfwd_many F.p1 n h1 h4 h5).mono ?_
          rintro e w' ⟨rfl, hb⟩
          exact ⟨rfl, V, F.bel hb, hb.mono hg⟩
        · intro w g x y X Y t r t' r' V U V' U' s s' q' F hg
          refine (rfwd_many F.p2 sa un n h1 h4 h5).mono ?_
          rintro e w' ⟨rfl, hb⟩
          exact ⟨rfl, U, F.bel hb, hb.mono hg⟩
      · have hlt : ms.length < 4096 := by omega
        refine ⟨0, ⟨toZ a v n, v, true, ms ++ [(a, toZ a v n)]⟩, ?_, ?_⟩
        · intro w g x y X Y t r t' r' V U V' U' q s' q' F hg
          refine (tfwd_draw F.p1 n h1 h4 hlt hg).mono ?_
          rintro e w' ⟨rfl, V2, T2, hT, hn⟩
          exact ⟨rfl, V2, F.prog hT T2 hn, hT.below F.g1 (own_ge F.p1.row) hg⟩
        · intro w g x y X Y t r t' r' V U V' U' s s' q' F hg
          refine (rfwd_draw F.p2 sa un n h1 h4 hlt hg).mono ?_
          rintro e w' ⟨rfl, V2, T2, hT, hn⟩
          exact ⟨rfl, V2, F.doc hT T2 hn, hT.below F.g2 (own_ge F.p2.row) hg⟩
  · refine ⟨8, ⟨a, v, dn, ms⟩, ?_, ?_⟩
    · intro w g x y X Y t r t' r' V U V' U' q s' q' F hg
      refine (tfwd_far F.p1 n h1).mono ?_
      rintro e w' ⟨rfl, hb⟩
      exact ⟨rfl, V, F.bel hb, hb.mono hg⟩
    · intro w g x y X Y t r t' r' V U V' U' s s' q' F hg
      refine (rfwd_far F.p2 sa un n h1).mono ?_
      rintro e w' ⟨rfl, hb⟩
      exact ⟨rfl, U, F.bel hb, hb.mono hg⟩
end
end Go.Proofs.YtndgcndmkfjdgaaDoor
