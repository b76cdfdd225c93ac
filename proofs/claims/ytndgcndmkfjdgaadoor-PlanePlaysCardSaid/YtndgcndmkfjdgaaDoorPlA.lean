import Derived.Test.YtndgcndmkfjdgaaDoorPgJ
namespace Go.Proofs.YtndgcndmkfjdgaaDoor
open Go.RowKit Go.Extern.Stop Go.Stop Go.Extern
set_option linter.unusedVariables false
set_option linter.unusedSimpArgs false
/-! drawings in memory; which may be -/
abbrev Pt := Int × Int
abbrev Mk := Pt × Pt
abbrev Wp := Nat × Nat
abbrev Mw := Wp × Wp
def mkOk (m : Mk) : Prop := Sm m.1 16777216 ∧ Sm m.2 16777216 ∧ ¬ ((m.1.1 = m.2.1) ↔ (m.1.2 = m.2.2))
def Nk (x : Mw) (z : Mk) : Prop := Nm x.1 z.1 ∧ Nm x.2 z.2
def MOk (x : Mw) : Prop := ∃ z, Nk x z ∧ mkOk z
def Ltw (x : Mw) : Prop := (x.1.1 < 18446744073709551616 ∧ x.1.2 < 18446744073709551616) ∧ x.2.1 < 18446744073709551616 ∧ x.2.2 < 18446744073709551616
/-- marks in memory, by their words -/
def Mks (W : World) (A : Option Addr) (xs : List Mw) : Prop := ∀ j (h : j < xs.length), ∃ b off, A = some ⟨b, off, none⟩ ∧ b < W.heap.size ∧ W.cell? ⟨b, off + j * 2, none⟩ = some (.complex .f64 xs[j].1.1 xs[j].1.2) ∧ W.cell? ⟨b, off + j * 2 + 1, none⟩ = some (.complex .f64 xs[j].2.1 xs[j].2.2) ∧ Ltw xs[j]
theorem Mks.kept {W W' : World} {A : Option Addr} {xs : List Mw} (h : Mks W A xs) (hb : Below W.heap.size W W') : Mks W' A xs := fun j hj => by
  obtain ⟨b, off, h1, h2, h3, h4, h5⟩ := h j hj
  exact ⟨b, off, h1, Nat.lt_of_lt_of_le h2 hb.size, (hb.cell (p := ⟨b, off + j * 2, none⟩) h2).trans h3, (hb.cell (p := ⟨b, off + j * 2 + 1, none⟩) h2).trans h4, h5⟩
theorem Mks.draws {W : World} {A : Option Addr} {xs : List Mw} (h : Mks W A xs) (n : Nat) : Mks (W.drewN n) A xs := h
theorem right_yes (x y : Nat) (h : Rt x ∧ Rt y) (hx : x < 18446744073709551616) (hy : y < 18446744073709551616) (w : World) : Calls Tryd.prog 54 #[.complex .f64 x y] w fun e w' => e = .returned (.bool true) ∧ ∃ n, w' = w.drewN n :=
  (right_any x y hx hy w).mono fun e w' ⟨r, he, hr, hn⟩ => ⟨by rw [he, hr.2 h], hn⟩
theorem right_no (x y : Nat) (h : ¬ (Rt x ∧ Rt y)) (hx : x < 18446744073709551616) (hy : y < 18446744073709551616) (w : World) : Calls Tryd.prog 54 #[.complex .f64 x y] w fun e w' => e = .returned (.bool false) ∧ ∃ n, w' = w.drewN n :=
  (right_any x y hx hy w).mono fun e w' ⟨r, he, hr, hn⟩ => ⟨by rw [he]; cases r; rfl; exact absurd (hr.1 rfl) h, hn⟩
/-- equal floats that stand for whole numbers -/
theorem wd_eql {x y : Nat} {a b : Int} (hx : Wd x a) (hy : Wd y b) : (FloatKind.f64.format.order x y == some .eq) = decide (a = b) := by
  have h : FloatKind.f64.format.order x y = some (compare a b) := wd_order hx hy
  rw [h]
  by_cases e : a = b
  · have := cmp_eq.2 e
    simp [this, e]
  · have : ¬ compare a b = .eq := fun g => e (cmp_eq.1 g)
    simp [this, e]
/-- may a drawing be? -/
def Rg (xs : List Mw) : Prop := xs.length ≤ 4096 ∧ ∀ m ∈ xs, MOk m
set_option maxRecDepth 100000 in
set_option maxHeartbeats 1000000 in
theorem pright_any (A : Option Addr) (xs : List Mw) (n c : Nat) (w : World) (hm : xs.length = n) (h : Mks w A xs) (r : Bool) (hr : r = true ↔ Rg xs) : Calls Tryd.prog 43 #[.slice A n c] w fun e w' => e = .returned (.bool r) ∧ Below w.heap.size w w' := by
  replace h := Lib.hid h
  by_cases hbig : 4096 < n
  · have hb1 : (4096 : Int) < n := by omega
    obtain rfl : r = false := by
      cases r
      · rfl
      · have := (hr.1 rfl).1; omega
    go_enter Tryd.func43, Tryd.ntmps43
    go_wp2_with (fail)
    go_returns
    exact ⟨rfl, Below.refl _ _⟩
  · have hb1 : ¬ (4096 : Int) < n := by omega
    replace hr := Lib.hid hr
    replace hm := Lib.hid hm
    go_enter Tryd.func43, Tryd.ntmps43
    go_wp2_with (fail)
    go_loopw [10] (fun x wr => ∃ j : Nat, x = .int .i64 j ∧ j ≤ n ∧ Hid ((∀ i (hi : i < xs.length), i < j → MOk xs[i]) ∧ Below w.heap.size w wr)) (fun x _ => n - (intOf x).toNat)
    case atStart => exact ⟨0, rfl, Nat.zero_le _, Lib.hid ⟨fun i hi h => absurd h (by omega), Below.refl _ _⟩⟩
    case round =>
      obtain ⟨j, rfl, hj0, hQ⟩ := hrel
      by_cases hj : j < n
      · have j0 : (j : Int) < (n : Int) := by omega
        have hjl : j < xs.length := by rw [hm.out]; exact hj
        obtain ⟨b, off, rfl, hbl, c0, c1, hL⟩ := h.out j hjl
        obtain ⟨⟨⟨p1, p2⟩, q1, q2⟩, hx⟩ : ∃ p, xs[j] = p := ⟨_, rfl⟩
        rw [hx] at c0 c1 hL
        simp only at c0 c1
        replace c0 := (hQ.out.2.cell (p := ⟨b, off + j * 2, none⟩) hbl).trans c0
        replace c1 := (hQ.out.2.cell (p := ⟨b, off + j * 2 + 1, none⟩) hbl).trans c1
        replace hL := Lib.hid hL
        replace hx := Lib.hid hx
        clear hbl
        have hL1 := hL.out.1
        have hL2 := hL.out.2
        simp only at hL1 hL2
        have hB1 : Below w.heap.size w (wr.alloc (.cells #[.complex .f64 p1 p2, .complex .f64 q1 q2] 65)) := hQ.out.2.alloc hQ.out.2.size _
        have bad : (¬ MOk ((p1, p2), q1, q2)) → Value.bool false = .bool r := fun g => by
          cases r
          · rfl
          · exact absurd (by have := (hr.out.1 rfl).2 _ (List.getElem_mem hjl); rw [hx.out] at this; exact this) g
        by_cases h1 : Rt p1 ∧ Rt p2
        · by_cases h2 : Rt q1 ∧ Rt q2
          · obtain ⟨a, ha, hsa⟩ := rt_nm (x := (p1, p2)) h1
            obtain ⟨d, hd, hsd⟩ := rt_nm (x := (q1, q2)) h2
            have e1 := wd_eql ha.1 hd.1
            have e2 := wd_eql ha.2 hd.2
            have hok : MOk ((p1, p2), q1, q2) ↔ ¬ (a.1 = d.1 ↔ a.2 = d.2) := ⟨fun ⟨z, ⟨g1, g2⟩, g3⟩ => by
              rw [wd_uniq ha.1 g1.1, wd_uniq ha.2 g1.2, wd_uniq hd.1 g2.1, wd_uniq hd.2 g2.2]; exact g3.2.2, fun g => ⟨(a, d), ⟨ha, hd⟩, hsa, hsd, g⟩⟩
            have c1 := right_yes p1 p2 h1 hL1.1 hL1.2
            have c2 := right_yes q1 q2 h2 hL2.1 hL2.2
            simp only at e1 e2
            obtain ⟨t1, ht1⟩ : ∃ t, decide (a.1 = d.1) = t := ⟨_, rfl⟩
            obtain ⟨t2, ht2⟩ : ∃ t, decide (a.2 = d.2) = t := ⟨_, rfl⟩
            rw [ht1] at e1
            rw [ht2] at e2
            replace ht1 := Lib.hid ht1
            replace ht2 := Lib.hid ht2
            replace hok := Lib.hid hok
            replace c1 := Lib.hid c1
            replace c2 := Lib.hid c2
            clear ha hd hsa hsd h1 h2 hL1 hL2
            replace bad := Lib.hid bad
            cases t1 <;> cases t2
            all_goals
              go_wp2_with (fail)
              refine (c1.out _).mono ?_
              rintro e w1 ⟨rfl, n1, hn_⟩
              replace hn_ := hn_.symm
              subst hn_
              go_wp2_with (fail)
              refine (c2.out _).mono ?_
              rintro e w1 ⟨rfl, n2, hn_⟩
              replace hn_ := hn_.symm
              subst hn_
              go_wp2_with (fail)
            · go_returns
              exact ⟨by rw [← bad.out (fun g => hok.out.1 g ⟨fun g => absurd g (of_decide_eq_false ht1.out), fun g => absurd g (of_decide_eq_false ht2.out)⟩)]; rfl, below_drewN hB1⟩
            · refine ⟨⟨j + 1, rfl, by omega, Lib.hid ⟨fun i hi h2 => ?_, below_drewN hB1⟩⟩, by simp [intOf]; omega⟩
              rcases (by omega : i < j ∨ i = j) with h3 | rfl
              · exact hQ.out.1 i hi h3
              · rw [hx.out]; exact hok.out.2 (fun g => absurd (g.2 (of_decide_eq_true ht2.out)) (of_decide_eq_false ht1.out))
            · refine ⟨⟨j + 1, rfl, by omega, Lib.hid ⟨fun i hi h2 => ?_, below_drewN hB1⟩⟩, by simp [intOf]; omega⟩
              rcases (by omega : i < j ∨ i = j) with h3 | rfl
              · exact hQ.out.1 i hi h3
              · rw [hx.out]; exact hok.out.2 (fun g => absurd (g.1 (of_decide_eq_true ht1.out)) (of_decide_eq_false ht2.out))
            · go_returns
              exact ⟨by rw [← bad.out (fun g => hok.out.1 g ⟨fun _ => of_decide_eq_true ht2.out, fun _ => of_decide_eq_true ht1.out⟩)]; rfl, below_drewN hB1⟩
          · have c1 := Lib.hid (right_yes p1 p2 h1 hL1.1 hL1.2)
            have c2 := Lib.hid (right_no q1 q2 h2 hL2.1 hL2.2)
            have hno : ¬ MOk ((p1, p2), q1, q2) := fun ⟨z, g1, g2⟩ => h2 ((nm_rt g1.2).2 g2.2.1)
            replace bad := Lib.hid (bad hno)
            clear h1 h2 hL1 hL2 hno
            go_wp2_with (fail)
            refine (c1.out _).mono ?_
            rintro e w1 ⟨rfl, n1, hn_⟩
            replace hn_ := hn_.symm
            subst hn_
            go_wp2_with (fail)
            refine (c2.out _).mono ?_
            rintro e w1 ⟨rfl, n2, hn_⟩
            replace hn_ := hn_.symm
            subst hn_
            go_wp2_with (fail)
            go_returns
            exact ⟨by rw [← bad.out]; rfl, below_drewN hB1⟩
        · have c1 := Lib.hid (right_no p1 p2 h1 hL1.1 hL1.2)
          have hno : ¬ MOk ((p1, p2), q1, q2) := fun ⟨z, g1, g2⟩ => h1 ((nm_rt g1.1).2 g2.1)
          replace bad := Lib.hid (bad hno)
          clear h1 hL1 hL2 hno
          go_wp2_with (fail)
          refine (c1.out _).mono ?_
          rintro e w1 ⟨rfl, n1, hn_⟩
          replace hn_ := hn_.symm
          subst hn_
          go_wp2_with (fail)
          go_returns
          exact ⟨by rw [← bad.out]; rfl, below_drewN hB1⟩
      · have j0 : ¬ (j : Int) < (n : Int) := by omega
        obtain rfl : r = true := hr.out.2 ⟨by rw [hm.out]; omega, fun z hz => by
          obtain ⟨i, hi, rfl⟩ := List.getElem_of_mem hz
          exact hQ.out.1 i hi (by rw [hm.out] at hi; omega)⟩
        go_wp2_with (fail)
        go_returns
        exact ⟨rfl, hQ.out.2⟩
end Go.Proofs.YtndgcndmkfjdgaaDoor
