import Derived.Test.YteldbkdfphkdbaaImV
namespace Go.Proofs.Yteldbkdfphkdbaa
open Go.RowKit
set_option linter.unusedVariables false
set_option linter.unusedSimpArgs false
/-! ImageFences -/
/-- a region's bytes as a text -/
def partS (L : Lay) (B : List UInt8) (r : Nat) : ByteArray := ⟨(partL L B (r : Int)).toArray⟩
def partsV (L : Lay) (B : List UInt8) : Array Value := #[.string (partS L B 1), .string (partS L B 2), .string (partS L B 3), .string (partS L B 4), .string (partS L B 5)]
section
variable {p b : Nat} {L : Lay} {B : List UInt8} {o s : Bool} {w : World}
set_option maxRecDepth 100000 in
set_option maxHeartbeats 4000000 in
theorem parts_any (h : Im w p b L B o s) : Calls Try.prog 32 #[.pointer (some ⟨p, 0, none⟩)] w fun e w' => e = .returned (.agg (partsV L B)) ∧ Below w.heap.size w w' := by
  have hP : ∀ W, Below w.heap.size w W → ∀ r : Nat, Calls Try.prog 27 #[.pointer (some ⟨p, 0, none⟩), .int .i64 r] W fun e w' => e = .returned (.string (partS L B r)) ∧ ∃ n, w' = W.drewN n := fun W hW r => Part_any (h.bel hW) r
  replace hP := Lib.hid hP
  clear h
  go_enter Try.func32, Try.ntmps32
  go_wp2_with (fail)
  have hR := (Bk.fresh w 58 #[.string ⟨#[]⟩, .string ⟨#[]⟩, .string ⟨#[]⟩, .string ⟨#[]⟩, .string ⟨#[]⟩]).past (.cells #[.string ⟨#[]⟩, .string ⟨#[]⟩, .string ⟨#[]⟩, .string ⟨#[]⟩, .string ⟨#[]⟩] 58)
  have hX := Bk.fresh (w.alloc (.cells #[.string ⟨#[]⟩, .string ⟨#[]⟩, .string ⟨#[]⟩, .string ⟨#[]⟩, .string ⟨#[]⟩] 58)) 58 #[.string ⟨#[]⟩, .string ⟨#[]⟩, .string ⟨#[]⟩, .string ⟨#[]⟩, .string ⟨#[]⟩]
  have hB := ((Below.refl w.heap.size w).alloc (Nat.le_refl _) (.cells #[.string ⟨#[]⟩, .string ⟨#[]⟩, .string ⟨#[]⟩, .string ⟨#[]⟩, .string ⟨#[]⟩] 58)).alloc (by simp) (.cells #[.string ⟨#[]⟩, .string ⟨#[]⟩, .string ⟨#[]⟩, .string ⟨#[]⟩, .string ⟨#[]⟩] 58)
  rw [World.size_alloc] at hX
  obtain ⟨Y, hY⟩ : ∃ Y, (w.alloc (.cells #[.string ⟨#[]⟩, .string ⟨#[]⟩, .string ⟨#[]⟩, .string ⟨#[]⟩, .string ⟨#[]⟩] 58)).alloc (.cells #[.string ⟨#[]⟩, .string ⟨#[]⟩, .string ⟨#[]⟩, .string ⟨#[]⟩, .string ⟨#[]⟩] 58) = Y := ⟨_, rfl⟩
  rw [hY] at hR hX hB ⊢
  clear hY
  have hlt : w.heap.size < w.heap.size + 1 := by omega
  have hg2 : w.heap.size ≤ w.heap.size + 1 := by omega
  have hg1 : w.heap.size ≤ w.heap.size := Nat.le_refl _
  obtain ⟨g2, hg⟩ : ∃ g2, w.heap.size + 1 = g2 := ⟨_, rfl⟩
  rw [hg] at hX hlt hg2 ⊢
  obtain ⟨g1, hgg⟩ : ∃ g1, w.heap.size = g1 := ⟨_, rfl⟩
  rw [hgg] at hR hlt ⊢
  have hg1 : w.heap.size ≤ g1 := Nat.le_of_eq hgg
  clear hg hgg
  replace hR := Lib.hid hR
  replace hX := Lib.hid hX
  replace hB := Lib.hid hB
  go_wp2_with (fail)
  refine wp_loop_rounds 6 ?_
  rw [rounds_succ]
  have c0 := hX.out.cell 0
  have f0 := hX.out.free 0
  simp at c0
  go_wp2_with (fail)
  refine (hP.out _ hB.out 1).mono ?_
  rintro e w1 ⟨rfl, n0, hn_⟩
  have hX1 := hX.out.draws n0
  have hR1 := hR.out.draws n0
  have hB1 : Below w.heap.size w w1 := by rw [hn_]; exact hB.out.trans ⟨rfl, rfl, rfl, Nat.le_refl _, fun _ _ => rfl⟩
  rw [← hn_] at hX1 hR1
  clear hn_ c0 f0 hX hR hB
  have c0 := hX1.cell 0
  have f0 := hX1.free 0
  simp at c0
  replace hX1 := Lib.hid hX1
  replace hR1 := Lib.hid hR1
  replace hB1 := Lib.hid hB1
  go_wp2_with (fail)
  have hX := Lib.hid (hX1.out.put 0 (.string (partS L B 1)))
  have hR := Lib.hid (hR1.out.other (p := ⟨g2, 0, none⟩) (Nat.ne_of_lt hlt) (.string (partS L B 1)))
  have hB := Lib.hid (hB1.out.setCell (p := ⟨g2, 0, none⟩) hg2 (.string (partS L B 1)))
  obtain ⟨Y, hY⟩ : ∃ Y, w1.setCell ⟨g2, 0, none⟩ (.string (partS L B 1)) = Y := ⟨_, rfl⟩
  rw [hY] at hX hR hB ⊢
  clear hY hX1 hR1 hB1 c0 f0
  rw [rounds_succ]
  have c1 := hX.out.cell 1
  have f1 := hX.out.free 1
  simp at c1
  go_wp2_with (fail)
  refine (hP.out _ hB.out 2).mono ?_
  rintro e w1 ⟨rfl, n1, hn_⟩
  have hX1 := hX.out.draws n1
  have hR1 := hR.out.draws n1
  have hB1 : Below w.heap.size w w1 := by rw [hn_]; exact hB.out.trans ⟨rfl, rfl, rfl, Nat.le_refl _, fun _ _ => rfl⟩
  rw [← hn_] at hX1 hR1
  clear hn_ c1 f1 hX hR hB
  have c1 := hX1.cell 1
  have f1 := hX1.free 1
  simp at c1
  replace hX1 := Lib.hid hX1
  replace hR1 := Lib.hid hR1
  replace hB1 := Lib.hid hB1
  go_wp2_with (fail)
  have hX := Lib.hid (hX1.out.put 1 (.string (partS L B 2)))
  have hR := Lib.hid (hR1.out.other (p := ⟨g2, 1, none⟩) (Nat.ne_of_lt hlt) (.string (partS L B 2)))
  have hB := Lib.hid (hB1.out.setCell (p := ⟨g2, 1, none⟩) hg2 (.string (partS L B 2)))
  obtain ⟨Y, hY⟩ : ∃ Y, w1.setCell ⟨g2, 1, none⟩ (.string (partS L B 2)) = Y := ⟨_, rfl⟩
  rw [hY] at hX hR hB ⊢
  clear hY hX1 hR1 hB1 c1 f1
  rw [rounds_succ]
  have c2 := hX.out.cell 2
  have f2 := hX.out.free 2
  simp at c2
  go_wp2_with (fail)
  refine (hP.out _ hB.out 3).mono ?_
  rintro e w1 ⟨rfl, n2, hn_⟩
  have hX1 := hX.out.draws n2
  have hR1 := hR.out.draws n2
  have hB1 : Below w.heap.size w w1 := by rw [hn_]; exact hB.out.trans ⟨rfl, rfl, rfl, Nat.le_refl _, fun _ _ => rfl⟩
  rw [← hn_] at hX1 hR1
  clear hn_ c2 f2 hX hR hB
  have c2 := hX1.cell 2
  have f2 := hX1.free 2
  simp at c2
  replace hX1 := Lib.hid hX1
  replace hR1 := Lib.hid hR1
  replace hB1 := Lib.hid hB1
  go_wp2_with (fail)
  have hX := Lib.hid (hX1.out.put 2 (.string (partS L B 3)))
  have hR := Lib.hid (hR1.out.other (p := ⟨g2, 2, none⟩) (Nat.ne_of_lt hlt) (.string (partS L B 3)))
  have hB := Lib.hid (hB1.out.setCell (p := ⟨g2, 2, none⟩) hg2 (.string (partS L B 3)))
  obtain ⟨Y, hY⟩ : ∃ Y, w1.setCell ⟨g2, 2, none⟩ (.string (partS L B 3)) = Y := ⟨_, rfl⟩
  rw [hY] at hX hR hB ⊢
  clear hY hX1 hR1 hB1 c2 f2
  rw [rounds_succ]
  have c3 := hX.out.cell 3
  have f3 := hX.out.free 3
  simp at c3
  go_wp2_with (fail)
  refine (hP.out _ hB.out 4).mono ?_
  rintro e w1 ⟨rfl, n3, hn_⟩
  have hX1 := hX.out.draws n3
  have hR1 := hR.out.draws n3
  have hB1 : Below w.heap.size w w1 := by rw [hn_]; exact hB.out.trans ⟨rfl, rfl, rfl, Nat.le_refl _, fun _ _ => rfl⟩
  rw [← hn_] at hX1 hR1
  clear hn_ c3 f3 hX hR hB
  have c3 := hX1.cell 3
  have f3 := hX1.free 3
  simp at c3
  replace hX1 := Lib.hid hX1
  replace hR1 := Lib.hid hR1
  replace hB1 := Lib.hid hB1
  go_wp2_with (fail)
  have hX := Lib.hid (hX1.out.put 3 (.string (partS L B 4)))
  have hR := Lib.hid (hR1.out.other (p := ⟨g2, 3, none⟩) (Nat.ne_of_lt hlt) (.string (partS L B 4)))
  have hB := Lib.hid (hB1.out.setCell (p := ⟨g2, 3, none⟩) hg2 (.string (partS L B 4)))
  obtain ⟨Y, hY⟩ : ∃ Y, w1.setCell ⟨g2, 3, none⟩ (.string (partS L B 4)) = Y := ⟨_, rfl⟩
  rw [hY] at hX hR hB ⊢
  clear hY hX1 hR1 hB1 c3 f3
  rw [rounds_succ]
  have c4 := hX.out.cell 4
  have f4 := hX.out.free 4
  simp at c4
  go_wp2_with (fail)
  refine (hP.out _ hB.out 5).mono ?_
  rintro e w1 ⟨rfl, n4, hn_⟩
  have hX1 := hX.out.draws n4
  have hR1 := hR.out.draws n4
  have hB1 : Below w.heap.size w w1 := by rw [hn_]; exact hB.out.trans ⟨rfl, rfl, rfl, Nat.le_refl _, fun _ _ => rfl⟩
  rw [← hn_] at hX1 hR1
  clear hn_ c4 f4 hX hR hB
  have c4 := hX1.cell 4
  have f4 := hX1.free 4
  simp at c4
  replace hX1 := Lib.hid hX1
  replace hR1 := Lib.hid hR1
  replace hB1 := Lib.hid hB1
  go_wp2_with (fail)
  have hX := Lib.hid (hX1.out.put 4 (.string (partS L B 5)))
  have hR := Lib.hid (hR1.out.other (p := ⟨g2, 4, none⟩) (Nat.ne_of_lt hlt) (.string (partS L B 5)))
  have hB := Lib.hid (hB1.out.setCell (p := ⟨g2, 4, none⟩) hg2 (.string (partS L B 5)))
  obtain ⟨Y, hY⟩ : ∃ Y, w1.setCell ⟨g2, 4, none⟩ (.string (partS L B 5)) = Y := ⟨_, rfl⟩
  rw [hY] at hX hR hB ⊢
  clear hY hX1 hR1 hB1 c4 f4
  rw [rounds_succ]
  skip
  have c0 := hX.out.cell 0
  have c1 := hX.out.cell 1
  have c2 := hX.out.cell 2
  have c3 := hX.out.cell 3
  have c4 := hX.out.cell 4
  have r0 := hR.out.cell 0
  have f0 := hR.out.free 0
  have r1 := hR.out.cell 1
  have f1 := hR.out.free 1
  have r2 := hR.out.cell 2
  have f2 := hR.out.free 2
  have r3 := hR.out.cell 3
  have f3 := hR.out.free 3
  have r4 := hR.out.cell 4
  have f4 := hR.out.free 4
  simp at c0 c1 c2 c3 c4 r0 r1 r2 r3 r4
  go_wp2_with (fail)
  have hR9 := (((((hR.out.put 0 (.string (partS L B 1))).put 1 (.string (partS L B 2))).put 2 (.string (partS L B 3))).put 3 (.string (partS L B 4))).put 4 (.string (partS L B 5)))
  have hB9 := (((((hB.out.setCell (p := ⟨g1, 0, none⟩) hg1 (.string (partS L B 1))).setCell (p := ⟨g1, 1, none⟩) hg1 (.string (partS L B 2))).setCell (p := ⟨g1, 2, none⟩) hg1 (.string (partS L B 3))).setCell (p := ⟨g1, 3, none⟩) hg1 (.string (partS L B 4))).setCell (p := ⟨g1, 4, none⟩) hg1 (.string (partS L B 5)))
  obtain ⟨w9, hw9⟩ : ∃ w9, (((((Y.setCell ⟨g1, 0, none⟩ (.string (partS L B 1))).setCell ⟨g1, 1, none⟩ (.string (partS L B 2))).setCell ⟨g1, 2, none⟩ (.string (partS L B 3))).setCell ⟨g1, 3, none⟩ (.string (partS L B 4))).setCell ⟨g1, 4, none⟩ (.string (partS L B 5))) = w9 := ⟨_, rfl⟩
  rw [hw9] at hR9 hB9 ⊢
  have q0 : w9.cell? ⟨g1, 0, none⟩ = some (.string (partS L B 1)) := hR9.cell 0
  have q1 : w9.cell? ⟨g1, 1, none⟩ = some (.string (partS L B 2)) := hR9.cell 1
  have q2 : w9.cell? ⟨g1, 2, none⟩ = some (.string (partS L B 3)) := hR9.cell 2
  have q3 : w9.cell? ⟨g1, 3, none⟩ = some (.string (partS L B 4)) := hR9.cell 3
  have q4 : w9.cell? ⟨g1, 4, none⟩ = some (.string (partS L B 5)) := hR9.cell 4
  refine bodyPost_ret (by simp [results, Try.results32, go_sem, q0, q1, q2, q3, q4]; rfl) rfl ?_
  exact ⟨rfl, hB9⟩
end
set_option maxRecDepth 100000 in
theorem eqStrs (x0 x1 x2 x3 x4 : ByteArray) (w : World) : (Op.equalIn 10000 58 (.agg #[.string x0, .string x1, .string x2, .string x3, .string x4]) (.agg #[.string x0, .string x1, .string x2, .string x3, .string x4])).run Try.prog w = .ok true w := by
  have u3 := Try.underlying9
  have a3 := Try.isAgg9
  have z3 := Try.sizeOf9
  rw [show (10000 : Nat) = 9999 + 1 from rfl, Op.equalIn]
  simp only [Sem.run_bind, run_underlying Try.underlying58, Result.andThen_ok]
  simp only [Std.Legacy.Range.forIn_eq_forIn_range', Std.Legacy.Range.size, Nat.sub_zero, Nat.add_sub_cancel, Nat.div_one, List.range'_succ, List.range'_zero, List.forIn_cons, List.forIn_nil]
  go_simp
theorem kept_parts {o : Bool} {md : Int} {L : Lay} (hL : L.ok) {B B' : List UInt8} (h : Kept o md L B B') (hm : md = 1 ∨ md = 2) : partS L B' 1 = partS L B 1 ∧ partS L B' 2 = partS L B 2 ∧ partS L B' 4 = partS L B 4 ∧ partS L B' 5 = partS L B 5 := by
  unfold partS
  rcases hm with rfl | rfl <;> cases o <;> exact ⟨by rw [kept_part hL h 1 (by decide) (by decide) (by decide)], by rw [kept_part hL h 2 (by decide) (by decide) (by decide)], by rw [kept_part hL h 4 (by decide) (by decide) (by decide)], by rw [kept_part hL h 5 (by decide) (by decide) (by decide)]⟩
set_option maxRecDepth 100000 in
set_option maxHeartbeats 8000000 in
theorem walk_fences (a0 a1 a2 a3 a4 z : Int) (o : Bool) (A2 : Option Addr) (n2 c2 : Nat) (w : World) (h0 : inI a0) (h1 : inI a1) (h2 : inI a2) (h3 : inI a3) (h4 : inI a4) (hz : inI z) (hops : Ops3 w A2 n2) :
    Calls Try.prog 7 #[.agg #[.int .i64 a0, .int .i64 a1, .int .i64 a2, .int .i64 a3, .int .i64 a4], .int .i64 z, .bool o, .slice A2 n2 c2] w fun e w' => e = .returned (.bool true) ∧ Below w.heap.size w w' := by
  have hfil := fun W => filled_any a0 a1 a2 a3 a4 z o true W h0 h1 h2 h3 h4 hz
  have hL := layOf_ok a0 a1 a2 a3 a4
  generalize layOf a0 a1 a2 a3 a4 = L at *
  have hn2 := hops.1
  have hn2I : (n2 : Int) ≤ 140737488351232 := by omega
  replace hops := Lib.hid hops
  replace hfil := Lib.hid hfil
  replace hL := Lib.hid hL
  clear h0 h1 h2 h3 h4 hz
  go_enter Try.func7, Try.ntmps7
  go_wp2_with (fail)
  have hBx := Bk.fresh w 39 #[.int .i64 a0, .int .i64 a1, .int .i64 a2, .int .i64 a3, .int .i64 a4]
  have hlx : Below w.heap.size w (w.alloc (.cells #[.int .i64 a0, .int .i64 a1, .int .i64 a2, .int .i64 a3, .int .i64 a4] 39)) := (Below.refl _ _).alloc (Nat.le_refl _) _
  obtain ⟨X, hX⟩ : ∃ X, w.alloc (.cells #[.int .i64 a0, .int .i64 a1, .int .i64 a2, .int .i64 a3, .int .i64 a4] 39) = X := ⟨_, rfl⟩
  rw [hX] at hBx hlx ⊢
  obtain ⟨y, hy⟩ : ∃ y, w.heap.size = y := ⟨_, rfl⟩
  rw [hy] at hBx ⊢
  clear hX hy
  refine (shown_any X).mono ?_
  rintro e w1 ⟨rfl, hb1⟩
  replace hBx := hBx.kept hb1 hBx.lt
  have Hb1 := hlx.trans (hb1.mono hlx.size)
  have x0 := hBx.cell 0
  have x1 := hBx.cell 1
  have x2 := hBx.cell 2
  have x3 := hBx.cell 3
  have x4 := hBx.cell 4
  simp at x0 x1 x2 x3 x4
  clear hBx hb1 hlx
  go_wp2_with (fail)
  refine (hfil.out w1).mono ?_
  rintro e w2 ⟨p, q, B, rfl, hI, zp, zq, hb2⟩
  have zq : w.heap.size ≤ q := Nat.le_trans Hb1.size zq
  have Hb2 := Hb1.trans (hb2.mono Hb1.size)
  clear x0 x1 x2 x3 x4 hb2 zp Hb1
  replace hI := Lib.hid hI
  go_wp2_with (fail)
  refine (parts_any hI.out).mono ?_
  rintro e w3 ⟨rfl, hb3⟩
  have hI3 := hI.out.bel hb3
  have Hb3 := Hb2.trans (hb3.mono Hb2.size)
  clear hI hb3 Hb2
  unfold partsV
  obtain ⟨P1, hP1⟩ : ∃ P, partS L B 1 = P := ⟨_, rfl⟩
  obtain ⟨P2, hP2⟩ : ∃ P, partS L B 2 = P := ⟨_, rfl⟩
  obtain ⟨P3, hP3⟩ : ∃ P, partS L B 3 = P := ⟨_, rfl⟩
  obtain ⟨P4, hP4⟩ : ∃ P, partS L B 4 = P := ⟨_, rfl⟩
  obtain ⟨P5, hP5⟩ : ∃ P, partS L B 5 = P := ⟨_, rfl⟩
  rw [hP1, hP2, hP3, hP4, hP5]
  have hpp := Lib.hid (⟨hP1, hP2, hP4, hP5⟩ : partS L B 1 = P1 ∧ partS L B 2 = P2 ∧ partS L B 4 = P4 ∧ partS L B 5 = P5)
  clear hP1 hP2 hP3 hP4 hP5
  have hF := Bk.fresh w3 58 #[.string P1, .string P2, .string P3, .string P4, .string P5]
  have hl4 : Below w3.heap.size w3 (w3.alloc (.cells #[.string P1, .string P2, .string P3, .string P4, .string P5] 58)) := (Below.refl _ _).alloc (Nat.le_refl _) _
  obtain ⟨X4, hX4⟩ : ∃ X, w3.alloc (.cells #[.string P1, .string P2, .string P3, .string P4, .string P5] 58) = X := ⟨_, rfl⟩
  obtain ⟨t, ht⟩ : ∃ t, w3.heap.size = t := ⟨_, rfl⟩
  rw [hX4] at hF hl4
  rw [ht] at hF
  have hJ : Hid (∃ B', Im X4 p q L B' o true ∧ (partS L B' 1 = P1 ∧ partS L B' 2 = P2 ∧ partS L B' 4 = P4 ∧ partS L B' 5 = P5) ∧ Bk X4 t 58 #[.string P1, .string P2, .string P3, .string P4, .string P5] ∧ Below w.heap.size w X4) := Lib.hid ⟨B, hI3.bel hl4, hpp.out, hF, Hb3.trans (hl4.mono Hb3.size)⟩
  clear hI3 Hb3 hl4 hF
  go_wp2_with (fail)
  go_loopw [12] (fun x wr => ∃ j : Nat, x = .int .i64 j ∧ j ≤ n2 ∧ Hid (∃ B', Im wr p q L B' o true ∧ (partS L B' 1 = P1 ∧ partS L B' 2 = P2 ∧ partS L B' 4 = P4 ∧ partS L B' 5 = P5) ∧ Bk wr t 58 #[.string P1, .string P2, .string P3, .string P4, .string P5] ∧ Below w.heap.size w wr)) (fun x _ => n2 - (intOf x).toNat)
  case atStart => exact ⟨0, rfl, Nat.zero_le _, hJ⟩
  case round =>
    obtain ⟨j, rfl, hj0, hR⟩ := hrel
    obtain ⟨B', hI, ⟨e1, e2, e4, e5⟩, hT, hBe⟩ := hR.out
    by_cases hj : j < n2
    · have j0 : (j : Int) < (n2 : Int) := by omega
      have j1 : (0 : Int) ≤ (j : Int) := by omega
      obtain ⟨ob, oo, o0, o1, o2, o3, o4, o5, o6, fr, tx, rfl, hlt, g0, g1, g2, g3, g4, g5, g6, g7, g8, r0, r1, r2, r3, r4, r5, r6, htx⟩ := hops.out.2 j hj
      have hpa := parts_any hI
      unfold partsV at hpa
      rw [e1, e2, e4, e5] at hpa
      obtain ⟨Q3, hQ3⟩ : ∃ Q, partS L B' 3 = Q := ⟨_, rfl⟩
      rw [hQ3] at hpa
      clear hR hJ
      replace hpa := Lib.hid hpa
      replace hI := Lib.hid hI
      go_wp2_with (fail)
      refine hpa.out.mono ?_
      rintro e w5 ⟨rfl, hb5⟩
      have hl6 : Below w5.heap.size w5 (w5.alloc (.cells #[.string P1, .string P2, .string Q3, .string P4, .string P5] 58)) := (Below.refl _ _).alloc (Nat.le_refl _) _
      have hU := Bk.fresh w5 58 #[.string P1, .string P2, .string Q3, .string P4, .string P5]
      have hb6 := hb5.trans (hl6.mono hb5.size)
      obtain ⟨X6, hX6⟩ : ∃ X, w5.alloc (.cells #[.string P1, .string P2, .string Q3, .string P4, .string P5] 58) = X := ⟨_, rfl⟩
      obtain ⟨u, hu⟩ : ∃ u, w5.heap.size = u := ⟨_, rfl⟩
      rw [hX6] at hU hl6 hb6
      rw [hu] at hU
      have hBe := hBe.trans (hb6.mono hBe.size)
      have hI6 := hI.out.bel hb6
      have hT6 := hT.kept hb6 hT.lt
      have g0 := (hBe.cell (p := ⟨ob, oo + j * 9, none⟩) hlt).trans g0
      have g1 := (hBe.cell (p := ⟨ob, oo + j * 9 + 1, none⟩) hlt).trans g1
      have g2 := (hBe.cell (p := ⟨ob, oo + j * 9 + 2, none⟩) hlt).trans g2
      have g3 := (hBe.cell (p := ⟨ob, oo + j * 9 + 3, none⟩) hlt).trans g3
      have g4 := (hBe.cell (p := ⟨ob, oo + j * 9 + 4, none⟩) hlt).trans g4
      have g5 := (hBe.cell (p := ⟨ob, oo + j * 9 + 5, none⟩) hlt).trans g5
      have g6 := (hBe.cell (p := ⟨ob, oo + j * 9 + 6, none⟩) hlt).trans g6
      have g7 := (hBe.cell (p := ⟨ob, oo + j * 9 + 7, none⟩) hlt).trans g7
      have g8 := (hBe.cell (p := ⟨ob, oo + j * 9 + 8, none⟩) hlt).trans g8
      have hmd := pickN_lt o1 2 (by decide)
      have hpk := fun W => pick_any o1 2 W r1.1 r1.2 (by decide) (by decide)
      simp only [show (2 : Int).toNat = 2 from rfl] at hpk
      obtain ⟨k, hk⟩ : ∃ k, pickN o1 2 = k := ⟨_, rfl⟩
      rw [hk] at hmd
      simp only [hk] at hpk
      have hW := Lib.hid (writes_any (md := 1 + (k : Int)) (hI6.draws 1) o0 o1 o2 o3 o4 o5 o6 fr tx r0 r2 r3 r4 r5 r6)
      have hk1 : (k : Int) ≤ 1 := by omega
      have hwr : IntKind.i64.wrap (1 + (k : Int)) = 1 + (k : Int) := by rw [IntKind.wrap_i64]; omega
      have hmd2 : 1 + (k : Int) = 1 ∨ 1 + (k : Int) = 2 := by clear hwr; omega
      replace hpk := Lib.hid hpk
      have hne := Lib.hid (⟨hU.ne hI6.by_ (by decide), hT6.ne hI6.by_ (by decide)⟩ : u ≠ q ∧ t ≠ q)
      replace hU := Lib.hid hU
      replace hT6 := Lib.hid hT6
      replace hBe := Lib.hid hBe
      have hee := Lib.hid (⟨e1, e2, e4, e5, hQ3⟩ : partS L B' 1 = P1 ∧ partS L B' 2 = P2 ∧ partS L B' 4 = P4 ∧ partS L B' 5 = P5 ∧ partS L B' 3 = Q3)
      replace hmd2 := Lib.hid hmd2
      clear hT hI hpa hb5 hl6 hb6 hI6 r0 r1 r2 r3 r4 r5 r6 htx hk e1 e2 e4 e5 hQ3
      go_wp2_with (fail)
      go_still_tail 12, (by kernel_rfl)
      still_call (hpk.out _)
      repeat still_step
      refine wpStill_nil ?_
      change wpList _ _ _ _ _ X6.drew
      go_wp2_with (fail)
      refine hW.out.mono ?_
      rintro e w7 ⟨f, B4, rfl, hf, hfB, hI7, hK7, hO7⟩
      have hk7 := kept_parts hL.out hK7 hmd2.out
      obtain ⟨e1, e2, e4, e5, hQ3⟩ := hee.out
      rw [e1, e2, e4, e5] at hk7
      have hU7 := hO7.bk (hU.out.draws 1) hne.out.1
      have hT7 := hO7.bk (hT6.out.draws 1) hne.out.2
      have hBe7 : Below w.heap.size w w7 := (hBe.out.trans ⟨rfl, rfl, rfl, Nat.le_refl _, fun _ _ => rfl⟩ : Below w.heap.size w X6.drew).trans (hO7.below zq hBe.out.size)
      have hQ4 : f ≠ 0 → partS L B4 3 = Q3 := fun h => by rw [hfB h]; exact hQ3
      clear hK7 hO7 hW hfB e1 e2 e4 e5 hQ3 g0 g1 g2 g3 g4 g5 g6 g7 g8
      obtain ⟨e1, e2, e4, e5⟩ := hk7
      have hpa := parts_any hI7
      unfold partsV at hpa
      rw [e1, e2, e4, e5] at hpa
      obtain ⟨Q4, hq4⟩ : ∃ Q, partS L B4 3 = Q := ⟨_, rfl⟩
      rw [hq4] at hpa hQ4
      have hee4 := Lib.hid (⟨e1, e2, e4, e5⟩ : partS L B4 1 = P1 ∧ partS L B4 2 = P2 ∧ partS L B4 4 = P4 ∧ partS L B4 5 = P5)
      clear e1 e2 e4 e5 hq4 hU hT6 hBe hee
      replace hpa := Lib.hid hpa
      replace hI7 := Lib.hid hI7
      replace hU7 := Lib.hid hU7
      replace hT7 := Lib.hid hT7
      replace hBe7 := Lib.hid hBe7
      replace hQ4 := Lib.hid hQ4
      go_wp2_with (fail)
      refine hpa.out.mono ?_
      rintro e w8 ⟨rfl, hb8⟩
      have hl9 : Below w8.heap.size w8 (w8.alloc (.cells #[.string P1, .string P2, .string Q4, .string P4, .string P5] 58)) := (Below.refl _ _).alloc (Nat.le_refl _) _
      have hb9 := hb8.trans (hl9.mono hb8.size)
      have hT9 := hT7.out.kept hb9 hT7.out.lt
      have hU9 := hU7.out.kept hb9 hU7.out.lt
      have hV9 := Bk.fresh w8 58 #[.string P1, .string P2, .string Q4, .string P4, .string P5]
      have t0 := hT9.cell 0
      have t1 := hT9.cell 1
      have t2 := hT9.cell 2
      have t3 := hT9.cell 3
      have t4 := hT9.cell 4
      simp at t0 t1 t2 t3 t4
      have v0 := hV9.cell 0
      have v1 := hV9.cell 1
      have v2 := hV9.cell 2
      have v3 := hV9.cell 3
      have v4 := hV9.cell 4
      simp at v0 v1 v2 v3 v4
      have u0 := hU9.cell 0
      have u1 := hU9.cell 1
      have u2 := hU9.cell 2
      have u3 := hU9.cell 3
      have u4 := hU9.cell 4
      simp at u0 u1 u2 u3 u4
      have hN : Hid (∃ B', Im (w8.alloc (.cells #[.string P1, .string P2, .string Q4, .string P4, .string P5] 58)) p q L B' o true ∧ (partS L B' 1 = P1 ∧ partS L B' 2 = P2 ∧ partS L B' 4 = P4 ∧ partS L B' 5 = P5) ∧ Bk (w8.alloc (.cells #[.string P1, .string P2, .string Q4, .string P4, .string P5] 58)) t 58 #[.string P1, .string P2, .string P3, .string P4, .string P5] ∧ Below w.heap.size w (w8.alloc (.cells #[.string P1, .string P2, .string Q4, .string P4, .string P5] 58))) := Lib.hid ⟨B4, hI7.out.bel hb9, hee4.out, hT9, hBe7.out.trans (hb9.mono hBe7.out.size)⟩
      clear hT9 hU9 hV9 hb9 hl9 hb8 hT7 hU7 hI7 hpa
      have hjj : j + 1 ≤ n2 ∧ n2 - (j + 1) < n2 - j := by omega
      replace hjj := Lib.hid hjj
      rcases hf with rfl | rfl
      · go_wp2_with (fail)
        refine ⟨⟨j + 1, rfl, hjj.out.1, hN⟩, ?_⟩
        exact hjj.out.2
      · obtain rfl := hQ4.out (by decide)
        have heq := eqStrs P1 P2 Q4 P4 P5
        go_wp2_with (fail)
        refine ⟨⟨j + 1, rfl, hjj.out.1, hN⟩, ?_⟩
        exact hjj.out.2
    · have j0 : ¬ (j : Int) < (n2 : Int) := by omega
      replace hBe := Lib.hid hBe
      clear hI e1 e2 e4 e5 hT hR
      go_wp2_with (fail)
      go_returns
      exact ⟨rfl, hBe.out⟩
end Go.Proofs.Yteldbkdfphkdbaa
