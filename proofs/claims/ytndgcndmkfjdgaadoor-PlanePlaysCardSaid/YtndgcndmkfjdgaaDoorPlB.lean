import Derived.Test.YtndgcndmkfjdgaaDoorPlA
namespace Go.Proofs.YtndgcndmkfjdgaaDoor
open Go.RowKit Go.Extern.Stop Go.Stop Go.Extern
set_option linter.unusedVariables false
set_option linter.unusedSimpArgs false
/-! plane.Closed, Area -/
def m0 : Mk := ((0, 0), (0, 0))
/-- a drawing that may be, by its numbers -/
def Dr (xs : List Mw) (zs : List Mk) : Prop := zs.length = xs.length ∧ xs.length ≤ 4096 ∧ ∀ i (h : i < xs.length), Nk xs[i] (zs.getD i m0) ∧ mkOk (zs.getD i m0)
theorem rg_dr {xs : List Mw} : Rg xs ↔ ∃ zs, Dr xs zs := by
  constructor
  · rintro ⟨h1, h2⟩
    have : ∀ (ys : List Mw), (∀ m ∈ ys, MOk m) → ∃ zs : List Mk, zs.length = ys.length ∧ ∀ i (h : i < ys.length), Nk ys[i] (zs.getD i m0) ∧ mkOk (zs.getD i m0) := by
      intro ys
      induction ys with
      | nil => intro _; exact ⟨[], rfl, fun i h => absurd h (Nat.not_lt_zero _)⟩
      | cons y ys ih =>
        intro h
        obtain ⟨zs, hl, hz⟩ := ih (fun m hm => h m (List.mem_cons_of_mem _ hm))
        obtain ⟨z, g1, g2⟩ := h y List.mem_cons_self
        refine ⟨z :: zs, by simp [hl], fun i hi => ?_⟩
        cases i with
        | zero => exact ⟨by simpa using g1, by simpa using g2⟩
        | succ i => have := hz i (by simpa using hi); simpa using this
    obtain ⟨zs, hl, hz⟩ := this xs h2
    exact ⟨zs, hl, h1, hz⟩
  · rintro ⟨zs, hl, h1, hz⟩
    refine ⟨h1, fun m hm => ?_⟩
    obtain ⟨i, hi, rfl⟩ := List.getElem_of_mem hm
    exact ⟨_, hz i hi⟩
theorem Dr.rg {xs : List Mw} {zs : List Mk} (h : Dr xs zs) : Rg xs := rg_dr.2 ⟨_, h⟩
def closedZ (zs : List Mk) : Prop := 0 < zs.length ∧ ∀ i, i < zs.length → (zs.getD ((i + zs.length - 1) % zs.length) m0).2 = (zs.getD i m0).1
theorem pclosed_bad (A : Option Addr) (xs : List Mw) (n c : Nat) (w : World) (hm : xs.length = n) (h : Mks w A xs) (hno : ¬ Rg xs) : Calls Tryd.prog 15 #[.slice A n c] w fun e w' => e = .returned (.bool false) ∧ Below w.heap.size w w' := by
  have hr := Lib.hid (pright_any A xs n c w hm h false ⟨fun h => absurd h (by decide), fun h => absurd h hno⟩)
  clear h hno
  by_cases h0 : n = 0
  · subst h0
    go_enter Tryd.func15, Tryd.ntmps15
    go_wp2_with (fail)
    go_returns
    exact ⟨rfl, Below.refl _ _⟩
  · have h1 : ((n : Int) == 0) = false := by simp; omega
    have h2 : ¬ (n : Int) = 0 := by omega
    go_enter Tryd.func15, Tryd.ntmps15
    go_wp2_with (fail)
    refine hr.out.mono ?_
    rintro e w1 ⟨rfl, hb⟩
    go_wp2_with (fail)
    go_returns
    exact ⟨rfl, hb⟩
set_option maxRecDepth 100000 in
set_option maxHeartbeats 1000000 in
theorem pclosed_ok (A : Option Addr) (xs : List Mw) (zs : List Mk) (n c : Nat) (w : World) (hm : xs.length = n) (h : Mks w A xs) (hD : Dr xs zs) (r : Bool) (hr : r = true ↔ closedZ zs) : Calls Tryd.prog 15 #[.slice A n c] w fun e w' => e = .returned (.bool r) ∧ Below w.heap.size w w' := by
  have hR := Lib.hid (pright_any A xs n c w hm h true ⟨fun _ => hD.rg, fun _ => rfl⟩)
  have hn4 : n ≤ 4096 := by rw [← hm]; exact hD.2.1
  have hzl : zs.length = n := by rw [hD.1, hm]
  replace h := Lib.hid h
  replace hr := Lib.hid hr
  replace hm := Lib.hid hm
  replace hD := Lib.hid hD
  replace hzl := Lib.hid hzl
  by_cases h0 : n = 0
  · subst h0
    obtain rfl : r = false := by
      cases r
      · rfl
      · have := (hr.out.1 rfl).1; rw [hzl.out] at this; omega
    go_enter Tryd.func15, Tryd.ntmps15
    go_wp2_with (fail)
    go_returns
    exact ⟨rfl, Below.refl _ _⟩
  · have h1 : ((n : Int) == 0) = false := by simp; omega
    have h2 : ¬ (n : Int) = 0 := by omega
    have hn4 : (n : Int) ≤ 4096 := by omega
    have hn0 : (0 : Int) < n := by omega
    go_enter Tryd.func15, Tryd.ntmps15
    go_wp2_with (fail)
    refine hR.out.mono ?_
    rintro e w1 ⟨rfl, hb⟩
    replace hb := Lib.hid hb
    go_wp2_with (fail)
    go_loopw [15] (fun x wr => ∃ j : Nat, x = .int .i64 j ∧ j ≤ n ∧ Hid ((∀ i, i < j → (zs.getD ((i + zs.length - 1) % zs.length) m0).2 = (zs.getD i m0).1) ∧ Below w.heap.size w wr)) (fun x _ => n - (intOf x).toNat)
    case atStart => exact ⟨0, rfl, Nat.zero_le _, Lib.hid ⟨fun i h => absurd h (Nat.not_lt_zero _), hb.out⟩⟩
    case round =>
      obtain ⟨j, rfl, hj0, hQ⟩ := hrel
      by_cases hj : j < n
      · have j0 : (j : Int) < (n : Int) := by omega
        have hjl : j < xs.length := by rw [hm.out]; exact hj
        obtain ⟨b, off, rfl, hbl, c0, c1, hL⟩ := h.out j hjl
        obtain ⟨k, hk⟩ : ∃ k, (j + n - 1) % n = k := ⟨_, rfl⟩
        have hkn : k < n := by rw [← hk]; exact Nat.mod_lt _ (by omega)
        have hkl : k < xs.length := by rw [hm.out]; exact hkn
        obtain ⟨b', off', eb, _, _, d1, _⟩ := h.out k hkl
        injection eb with eb
        injection eb with e1 e2
        subst e1 e2
        have g1 := (hD.out.2.2 j hjl).1.1
        have g2 := (hD.out.2.2 k hkl).1.2
        obtain ⟨⟨⟨p1, p2⟩, q1, q2⟩, hx⟩ : ∃ p, xs[j] = p := ⟨_, rfl⟩
        obtain ⟨⟨⟨s1, s2⟩, t1, t2⟩, hy⟩ : ∃ p, xs[k] = p := ⟨_, rfl⟩
        rw [hx] at c0 c1 g1
        rw [hy] at d1 g2
        simp only at c0 c1 d1
        replace c0 := (hQ.out.2.cell (p := ⟨b, off + j * 2, none⟩) hbl).trans c0
        replace c1 := (hQ.out.2.cell (p := ⟨b, off + j * 2 + 1, none⟩) hbl).trans c1
        replace d1 := (hQ.out.2.cell (p := ⟨b, off + k * 2 + 1, none⟩) hbl).trans d1
        have f1 := wd_eql g2.1 g1.1
        have f2 := wd_eql g2.2 g1.2
        simp only at f1 f2
        have hpt : (zs.getD k m0).2 = (zs.getD j m0).1 ↔ ((zs.getD k m0).2.1 = (zs.getD j m0).1.1) ∧ ((zs.getD k m0).2.2 = (zs.getD j m0).1.2) := Prod.ext_iff
        obtain ⟨t, ht⟩ : ∃ t, decide ((zs.getD k m0).2.1 = (zs.getD j m0).1.1) = t := ⟨_, rfl⟩
        obtain ⟨u, hu⟩ : ∃ u, decide ((zs.getD k m0).2.2 = (zs.getD j m0).1.2) = u := ⟨_, rfl⟩
        rw [ht] at f1
        rw [hu] at f2
        replace ht := Lib.hid ht
        replace hu := Lib.hid hu
        replace hpt := Lib.hid hpt
        obtain ⟨q, hq⟩ : ∃ q, j + n - 1 = q := ⟨_, rfl⟩
        have e2 : IntKind.i64.wrap ((j : Int) + n - 1) = (q : Int) := by rw [IntKind.wrap_i64]; omega
        have e3 : (q : Int).tmod n = (k : Int) := by rw [← hk, hq]; exact Int.ofNat_tmod _ _
        have e4 : (k : Int) < n := by omega
        have e5 : (0 : Int) ≤ k := by omega
        replace hq := Lib.hid hq
        have bad : ¬ (zs.getD k m0).2 = (zs.getD j m0).1 → r = false := fun g => by
          cases r
          · rfl
          · have := (hr.out.1 rfl).2 j (by rw [hzl.out]; exact hj)
            rw [hzl.out, hk] at this
            exact absurd this g
        replace bad := Lib.hid bad
        replace hk := Lib.hid hk
        replace hx := Lib.hid hx
        replace hy := Lib.hid hy
        clear g1 g2 hL
        cases t <;> cases u
        all_goals
          go_wp2_with (fail)
          have hbr : b < wr.heap.size := Nat.lt_of_lt_of_le hbl hQ.out.2.size
          have hK := Bk.fresh wr 65 #[.complex .f64 p1 p2, .complex .f64 q1 q2]
          have d2 := ((Below.refl wr.heap.size wr).alloc (Nat.le_refl _) (.cells #[.complex .f64 p1 p2, .complex .f64 q1 q2] 65)).cell (p := ⟨b, off + k * 2 + 1, none⟩) hbr
          replace d2 := d2.trans d1
          have hB := hQ.out.2.alloc hQ.out.2.size (.cells #[.complex .f64 p1 p2, .complex .f64 q1 q2] 65)
          replace hB := Lib.hid hB
          obtain ⟨X, hX⟩ : ∃ X, wr.alloc (.cells #[.complex .f64 p1 p2, .complex .f64 q1 q2] 65) = X := ⟨_, rfl⟩
          obtain ⟨g, hg⟩ : ∃ g, wr.heap.size = g := ⟨_, rfl⟩
          rw [hX] at hK d2 hB ⊢
          rw [hg] at hK ⊢
          have k0 := hK.cell 0
          have k1 := hK.cell 1
          simp at k0 k1
          clear hX hg c0 c1 d1 hbr hK
          go_quiet (fail)
          go_wp2_with (fail)
        · go_returns
          exact ⟨by rw [bad.out (fun g => of_decide_eq_false ht.out (hpt.out.1 g).1)]; rfl, below_drewN hB.out⟩
        · go_returns
          exact ⟨by rw [bad.out (fun g => of_decide_eq_false ht.out (hpt.out.1 g).1)]; rfl, below_drewN hB.out⟩
        · go_returns
          exact ⟨by rw [bad.out (fun g => of_decide_eq_false hu.out (hpt.out.1 g).2)]; rfl, below_drewN hB.out⟩
        · refine ⟨⟨j + 1, rfl, by omega, Lib.hid ⟨fun i hi => ?_, below_drewN hB.out⟩⟩, by simp [intOf]; omega⟩
          rcases (by omega : i < j ∨ i = j) with h3 | rfl
          · exact hQ.out.1 i h3
          · rw [hzl.out, hk.out]; exact hpt.out.2 ⟨of_decide_eq_true ht.out, of_decide_eq_true hu.out⟩
      · have j0 : ¬ (j : Int) < (n : Int) := by omega
        obtain rfl : r = true := hr.out.2 ⟨by rw [hzl.out]; omega, fun i hi => hQ.out.1 i (by rw [hzl.out] at hi; omega)⟩
        go_wp2_with (fail)
        go_returns
        exact ⟨rfl, hQ.out.2⟩
end Go.Proofs.YtndgcndmkfjdgaaDoor
