import Derived.Test.YtndgcndmkfjdgaaDoorPlC
namespace Go.Proofs.YtndgcndmkfjdgaaDoor
open Go.RowKit Go.Extern.Stop Go.Stop Go.Extern
set_option linter.unusedVariables false
set_option linter.unusedSimpArgs false
/-! the document's Right, Closed, Area -/
/-- the document's marks in memory -/
def Rks (W : World) (A : Option Addr) (zs : List Mk) : Prop := ∀ j, j < zs.length → ∃ b off, A = some ⟨b, off, none⟩ ∧ b < W.heap.size ∧ (W.cell? ⟨b, off + j * 4, none⟩ = some (.int .i64 (zs.getD j m0).1.1) ∧ W.cell? ⟨b, off + j * 4 + 1, none⟩ = some (.int .i64 (zs.getD j m0).1.2)) ∧ W.cell? ⟨b, off + j * 4 + 2, none⟩ = some (.int .i64 (zs.getD j m0).2.1) ∧ W.cell? ⟨b, off + j * 4 + 3, none⟩ = some (.int .i64 (zs.getD j m0).2.2)
def Sms (zs : List Mk) : Prop := ∀ j, j < zs.length → Sm (zs.getD j m0).1 16777216 ∧ Sm (zs.getD j m0).2 16777216
theorem Rks.kept {W W' : World} {A : Option Addr} {zs : List Mk} (h : Rks W A zs) (hb : Below W.heap.size W W') : Rks W' A zs := fun j hj => by
  obtain ⟨b, off, h1, h2, ⟨h3, h4⟩, h5, h6⟩ := h j hj
  exact ⟨b, off, h1, Nat.lt_of_lt_of_le h2 hb.size, ⟨(hb.cell (p := ⟨b, off + j * 4, none⟩) h2).trans h3, (hb.cell (p := ⟨b, off + j * 4 + 1, none⟩) h2).trans h4⟩, (hb.cell (p := ⟨b, off + j * 4 + 2, none⟩) h2).trans h5, (hb.cell (p := ⟨b, off + j * 4 + 3, none⟩) h2).trans h6⟩
def axisZ (m : Mk) : Prop := ¬ ((m.1.1 = m.2.1) ↔ (m.1.2 = m.2.2))
def rightZ (zs : List Mk) : Prop := zs.length ≤ 4096 ∧ ∀ j, j < zs.length → axisZ (zs.getD j m0)
theorem within_yes (a : Int × Int) (h : Sm a 16777216) (w : World) : Calls Tryd.prog 44 #[.agg #[.int .i64 a.1, .int .i64 a.2]] w fun e w' => e = .returned (.bool true) ∧ Below w.heap.size w w' := by
  have := rwithin_any a w
  rw [show decide (a.1.natAbs ≤ 16777216 ∧ a.2.natAbs ≤ 16777216) = true from decide_eq_true (by unfold Sm at h; omega)] at this
  exact this
set_option maxRecDepth 100000 in
set_option maxHeartbeats 1000000 in
theorem rright_any (A : Option Addr) (zs : List Mk) (n c : Nat) (w : World) (hm : zs.length = n) (h : Rks w A zs) (hS : Sms zs) (r : Bool) (hr : r = true ↔ rightZ zs) : Calls Tryd.prog 17 #[.slice A n c] w fun e w' => e = .returned (.bool r) ∧ Below w.heap.size w w' := by
  replace h := Lib.hid h
  replace hS := Lib.hid hS
  by_cases hbig : 4096 < n
  · have hb1 : (4096 : Int) < n := by omega
    obtain rfl : r = false := by
      cases r
      · rfl
      · have := (hr.1 rfl).1; omega
    go_enter Tryd.func17, Tryd.ntmps17
    go_wp2_with (fail)
    go_returns
    exact ⟨rfl, Below.refl _ _⟩
  · have hb1 : ¬ (4096 : Int) < n := by omega
    replace hr := Lib.hid hr
    replace hm := Lib.hid hm
    go_enter Tryd.func17, Tryd.ntmps17
    go_wp2_with (fail)
    go_loopw [3] (fun x wr => ∃ j : Nat, x = .int .i64 j ∧ j ≤ n ∧ Hid ((∀ i, i < j → axisZ (zs.getD i m0)) ∧ Below w.heap.size w wr)) (fun x _ => n - (intOf x).toNat)
    case atStart => exact ⟨0, rfl, Nat.zero_le _, Lib.hid ⟨fun i h => absurd h (by omega), Below.refl _ _⟩⟩
    case round =>
      obtain ⟨j, rfl, hj0, hQ⟩ := hrel
      by_cases hj : j < n
      · have j0 : (j : Int) < (n : Int) := by omega
        obtain ⟨b, off, rfl, hbl, ⟨c0, c1⟩, c2, c3⟩ := h.out j (by rw [hm.out]; exact hj)
        obtain ⟨s1, s2⟩ := hS.out j (by rw [hm.out]; exact hj)
        obtain ⟨⟨⟨p1, p2⟩, q1, q2⟩, hx⟩ : ∃ p, zs.getD j m0 = p := ⟨_, rfl⟩
        rw [hx] at c0 c1 c2 c3 s1 s2
        simp only at c0 c1 c2 c3 s1 s2
        replace c0 := (hQ.out.2.cell (p := ⟨b, off + j * 4, none⟩) hbl).trans c0
        replace c1 := (hQ.out.2.cell (p := ⟨b, off + j * 4 + 1, none⟩) hbl).trans c1
        replace c2 := (hQ.out.2.cell (p := ⟨b, off + j * 4 + 2, none⟩) hbl).trans c2
        replace c3 := (hQ.out.2.cell (p := ⟨b, off + j * 4 + 3, none⟩) hbl).trans c3
        have hw1 := Lib.hid (fun w => within_yes (p1, p2) s1 w)
        have hw2 := Lib.hid (fun w => within_yes (q1, q2) s2 w)
        replace hx := Lib.hid hx
        have hbr : b < wr.heap.size := Nat.lt_of_lt_of_le hbl hQ.out.2.size
        have d2 := (((Below.refl wr.heap.size wr).alloc (Nat.le_refl _) (.cells #[.int .i64 p1, .int .i64 p2] 58)).cell (p := ⟨b, off + j * 4 + 2, none⟩) hbr).trans c2
        have d3 := (((Below.refl wr.heap.size wr).alloc (Nat.le_refl _) (.cells #[.int .i64 p1, .int .i64 p2] 58)).cell (p := ⟨b, off + j * 4 + 3, none⟩) hbr).trans c3
        clear s1 s2 hbl
        go_wp2_with (fail)
        have k1 := (Bk.fresh wr 58 #[.int .i64 p1, .int .i64 p2]).past (.cells #[.int .i64 q1, .int .i64 q2] 58)
        have k2 := Bk.fresh (wr.alloc (.cells #[.int .i64 p1, .int .i64 p2] 58)) 58 #[.int .i64 q1, .int .i64 q2]
        have hB := (hQ.out.2.alloc hQ.out.2.size (.cells #[.int .i64 p1, .int .i64 p2] 58)).alloc (by rw [World.size_alloc]; have := hQ.out.2.size; omega) (.cells #[.int .i64 q1, .int .i64 q2] 58)
        simp only [World.size_alloc] at k2
        obtain ⟨X, hX⟩ : ∃ X, (wr.alloc (.cells #[.int .i64 p1, .int .i64 p2] 58)).alloc (.cells #[.int .i64 q1, .int .i64 q2] 58) = X := ⟨_, rfl⟩
        obtain ⟨g, hg⟩ : ∃ g, wr.heap.size = g := ⟨_, rfl⟩
        rw [hX, hg] at k1 k2
        rw [hX] at hB
        rw [hX, hg]
        clear hX hg c0 c1 c2 c3 d2 d3 hbr
        refine (hw1.out _).mono ?_
        rintro e w2 ⟨rfl, hb2⟩
        have k1 := k1.kept hb2 k1.lt
        have k2 := k2.kept hb2 k2.lt
        have hB := hB.trans (hb2.mono hB.size)
        have l0 := k2.cell 0
        have l1 := k2.cell 1
        simp at l0 l1
        clear hb2
        go_wp2_with (fail)
        refine (hw2.out _).mono ?_
        rintro e w3 ⟨rfl, hb3⟩
        have k1 := k1.kept hb3 k1.lt
        have k2 := k2.kept hb3 k2.lt
        have hB := Lib.hid (hB.trans (hb3.mono hB.size))
        have l0 := k2.cell 0
        have l1 := k2.cell 1
        have l2 := k1.cell 0
        have l3 := k1.cell 1
        simp at l0 l1 l2 l3
        clear hb3 k1 k2
        have bad : ¬ axisZ ((p1, p2), q1, q2) → r = false := fun g => by
          cases r
          · rfl
          · have := (hr.out.1 rfl).2 j (by rw [hm.out]; exact hj)
            rw [hx.out] at this
            exact absurd this g
        have hax : axisZ ((p1, p2), q1, q2) ↔ ¬ (p1 = q1 ↔ p2 = q2) := Iff.rfl
        by_cases h1 : p1 = q1 <;> by_cases h2 : p2 = q2
        · obtain rfl := bad (by rw [hax]; simp [h1, h2])
          clear bad hax
          subst h1 h2
          go_wp2_with (fail)
          go_returns
          exact ⟨rfl, hB.out⟩
        · have hax2 := Lib.hid (hax.2 (by simp [h1, h2]))
          clear bad hax
          subst h1
          have h2' : (p2 == q2) = false := by simpa using h2
          go_wp2_with (fail)
          refine ⟨⟨j + 1, rfl, by omega, Lib.hid ⟨fun i hi => ?_, hB.out⟩⟩, by simp [intOf]; omega⟩
          rcases (by omega : i < j ∨ i = j) with h3 | rfl
          · exact hQ.out.1 i h3
          · rw [hx.out]; exact hax2.out
        · have hax2 := Lib.hid (hax.2 (by simp [h1, h2]))
          clear bad hax
          subst h2
          have h1' : (p1 == q1) = false := by simpa using h1
          go_wp2_with (fail)
          refine ⟨⟨j + 1, rfl, by omega, Lib.hid ⟨fun i hi => ?_, hB.out⟩⟩, by simp [intOf]; omega⟩
          rcases (by omega : i < j ∨ i = j) with h3 | rfl
          · exact hQ.out.1 i h3
          · rw [hx.out]; exact hax2.out
        · obtain rfl := bad (by rw [hax]; simp [h1, h2])
          have h1' : (p1 == q1) = false := by simpa using h1
          have h2' : (p2 == q2) = false := by simpa using h2
          clear bad hax
          go_wp2_with (fail)
          go_returns
          exact ⟨rfl, hB.out⟩
      · have j0 : ¬ (j : Int) < (n : Int) := by omega
        obtain rfl : r = true := hr.out.2 ⟨by rw [hm.out]; omega, fun i hi => hQ.out.1 i (by rw [hm.out] at hi; omega)⟩
        go_wp2_with (fail)
        go_returns
        exact ⟨rfl, hQ.out.2⟩
end Go.Proofs.YtndgcndmkfjdgaaDoor
