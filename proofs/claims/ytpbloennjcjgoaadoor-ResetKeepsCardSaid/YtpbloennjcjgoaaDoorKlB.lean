import Derived.Test.YtpbloennjcjgoaaDoorKlA
namespace Go.Proofs.YtpbloennjcjgoaaDoor
open Go.RowKit
set_option linter.unusedVariables false
set_option linter.unusedSimpArgs false
/-! chapter 16: Keep, Lay of the student's list -/
section
variable {w W W' : World} {d p b : Nat} {L : Lay} {f y : Nat} {B : List UInt8} {o s : Bool} {h l : Nat}
def strL (L : Lay) (B : List UInt8) (r : Int) : ByteArray := ⟨(partL L B r).toArray⟩
def stV (S D R : ByteArray) (x y : Int) : Value := .agg #[.string S, .string D, .string R, .int .i64 x, .int .i64 y]
set_option maxRecDepth 100000 in
set_option maxHeartbeats 4000000 in
theorem keep_yes (D : Dc w d p b L 3 f y B o s h l) : Calls Tryd.prog 22 #[.pointer (some ⟨p, 0, none⟩), .pointer (some ⟨d, 0, none⟩)] w fun e w' => e = .returned (.tuple #[.agg #[.string (strL L B 3), .string (strL L B 4), .string (strL L B 5), .int .i64 h, .int .i64 l], .int .i64 0]) ∧ Below w.heap.size w w' := by
  have hA := Lib.hid (fun (W : World) (hb : Below w.heap.size w W) => asked_yes (D.bel hb))
  have hMk := Lib.hid (fun (W : World) (hb : Below w.heap.size w W) => mark_any (D.bel hb))
  have hP := Lib.hid (fun (r : Int) (W : World) (hb : Below w.heap.size w W) => Part_any (D.bel hb).im r)
  obtain ⟨P3, hP3⟩ : ∃ P, strL L B 3 = P := ⟨_, rfl⟩
  obtain ⟨P4, hP4⟩ : ∃ P, strL L B 4 = P := ⟨_, rfl⟩
  obtain ⟨P5, hP5⟩ : ∃ P, strL L B 5 = P := ⟨_, rfl⟩
  have h3 := Lib.hid (fun (W : World) (hb : Below w.heap.size w W) => hP.out 3 W hb)
  have h4 := Lib.hid (fun (W : World) (hb : Below w.heap.size w W) => hP.out 4 W hb)
  have h5 := Lib.hid (fun (W : World) (hb : Below w.heap.size w W) => hP.out 5 W hb)
  unfold strL at hP3 hP4 hP5
  rw [hP3] at h3
  rw [hP4] at h4
  rw [hP5] at h5
  unfold strL
  rw [hP3, hP4, hP5]
  clear hP hP3 hP4 hP5 D
  go_enter Tryd.func22, Tryd.ntmps22
  go_wp2_with (fail)
  have hb0 : Below w.heap.size w (w.alloc (.cells #[.string ⟨#[]⟩, .string ⟨#[]⟩, .string ⟨#[]⟩, .int .i64 0, .int .i64 0] 23)) := (Below.refl _ _).alloc (Nat.le_refl _) _
  have hx := Bk.fresh w 23 #[.string ⟨#[]⟩, .string ⟨#[]⟩, .string ⟨#[]⟩, .int .i64 0, .int .i64 0]
  obtain ⟨X, hX⟩ : ∃ X, w.alloc (.cells #[.string ⟨#[]⟩, .string ⟨#[]⟩, .string ⟨#[]⟩, .int .i64 0, .int .i64 0] 23) = X := ⟨_, rfl⟩
  rw [hX] at hb0 hx ⊢
  obtain ⟨q, hq⟩ : ∃ q, w.heap.size = q := ⟨_, rfl⟩
  have hyl : w.heap.size ≤ q := Nat.le_of_eq hq
  rw [hq] at hx ⊢
  refine (hA.out X hb0).mono ?_
  rintro e w1 ⟨rfl, n, hn⟩
  have hn := hn.symm
  subst hn
  have hW := Lib.hid (below_drawn hb0 n)
  replace hx := Lib.hid (hx.draws n)
  obtain ⟨W1, hW1⟩ : ∃ W1, X.drewN n = W1 := ⟨_, rfl⟩
  rw [hW1] at hW hx ⊢
  clear hW1 hA hb0 hX
  go_wp2_with (fail)
  refine (hMk.out W1 hW.out).mono ?_
  rintro e w1 ⟨rfl, n2, hn⟩
  have hn := hn.symm
  subst hn
  have hW2 := Lib.hid (below_drawn hW.out n2)
  replace hx := Lib.hid (hx.out.draws n2)
  obtain ⟨W2, hw2⟩ : ∃ W2, W1.drewN n2 = W2 := ⟨_, rfl⟩
  rw [hw2] at hW2 hx ⊢
  clear hw2 hMk hW
  go_wp2_with (fail)
  refine (h3.out W2 hW2.out).mono ?_
  rintro e w1 ⟨rfl, n3, hn⟩
  have hn := hn.symm
  subst hn
  have hW3 := Lib.hid (below_drawn hW2.out n3)
  replace hx := Lib.hid (hx.out.draws n3)
  obtain ⟨W3, hw3⟩ : ∃ W3, W2.drewN n3 = W3 := ⟨_, rfl⟩
  rw [hw3] at hW3 hx ⊢
  clear hw3 h3 hW2
  go_wp2_with (fail)
  refine (h4.out W3 hW3.out).mono ?_
  rintro e w1 ⟨rfl, n4, hn⟩
  have hn := hn.symm
  subst hn
  have hW4 := Lib.hid (below_drawn hW3.out n4)
  replace hx := Lib.hid (hx.out.draws n4)
  obtain ⟨W4, hw4⟩ : ∃ W4, W3.drewN n4 = W4 := ⟨_, rfl⟩
  rw [hw4] at hW4 hx ⊢
  clear hw4 h4 hW3
  go_wp2_with (fail)
  refine (h5.out W4 hW4.out).mono ?_
  rintro e w1 ⟨rfl, n5, hn⟩
  have hn := hn.symm
  subst hn
  have hW5 := Lib.hid (below_drawn hW4.out n5)
  replace hx := Lib.hid (hx.out.draws n5)
  obtain ⟨W5, hw5⟩ : ∃ W5, W4.drewN n5 = W5 := ⟨_, rfl⟩
  rw [hw5] at hW5 hx ⊢
  clear hw5 h5 hW4
  have c0 := hx.out.cell 0
  have c1 := hx.out.cell 1
  have c2 := hx.out.cell 2
  have c3 := hx.out.cell 3
  have c4 := hx.out.cell 4
  have f0 := hx.out.free 0
  have f1 := hx.out.free 1
  have f2 := hx.out.free 2
  have f3 := hx.out.free 3
  have f4 := hx.out.free 4
  simp at c0 c1 c2 c3 c4
  go_wp2_with (fail)
  have hR3 := (((((hx.out.put 0 (.string P3)).put 1 (.string P4)).put 2 (.string P5)).put 3 (.int .i64 h)).put 4 (.int .i64 l))
  have hB3 := (((((hW5.out.setCell (p := ⟨q, 0, none⟩) hyl (.string P3)).setCell (p := ⟨q, 1, none⟩) hyl (.string P4)).setCell (p := ⟨q, 2, none⟩) hyl (.string P5)).setCell (p := ⟨q, 3, none⟩) hyl (.int .i64 h)).setCell (p := ⟨q, 4, none⟩) hyl (.int .i64 l))
  obtain ⟨w9, hw9⟩ : ∃ w9, (((((W5.setCell ⟨q, 0, none⟩ (.string P3)).setCell ⟨q, 1, none⟩ (.string P4)).setCell ⟨q, 2, none⟩ (.string P5)).setCell ⟨q, 3, none⟩ (.int .i64 h)).setCell ⟨q, 4, none⟩ (.int .i64 l)) = w9 := ⟨_, rfl⟩
  rw [hw9] at hR3 hB3 ⊢
  have r0 : w9.cell? ⟨q, 0, none⟩ = some (.string P3) := hR3.cell 0
  have r1 : w9.cell? ⟨q, 1, none⟩ = some (.string P4) := hR3.cell 1
  have r2 : w9.cell? ⟨q, 2, none⟩ = some (.string P5) := hR3.cell 2
  have r3 : w9.cell? ⟨q, 3, none⟩ = some (.int .i64 h) := hR3.cell 3
  have r4 : w9.cell? ⟨q, 4, none⟩ = some (.int .i64 l) := hR3.cell 4
  refine bodyPost_ret (by simp [results, Tryd.results22, go_sem, r0, r1, r2, r3, r4]; rfl) rfl ?_
  exact ⟨rfl, hB3⟩
end
end Go.Proofs.YtpbloennjcjgoaaDoor
