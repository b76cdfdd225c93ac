import Derived.Test.YtpbloennjcjgoaaDoorKlB
namespace Go.Proofs.YtpbloennjcjgoaaDoor
open Go.RowKit
set_option linter.unusedVariables false
set_option linter.unusedSimpArgs false
/-! chapter 16: Lay -/
section
variable {w W W' : World} {d p b : Nat} {L : Lay} {f y : Nat} {B : List UInt8} {o s : Bool} {h l : Nat}
theorem layoutm_any (hI : Im w p b L B o s) : Calls Tryd.prog 45 #[.pointer (some ⟨p, 0, none⟩)] w fun e w' => e = .returned (.agg #[.int .i64 L.k, .int .i64 L.s, .int .i64 L.u, .int .i64 L.d, .int .i64 L.r]) ∧ Below w.heap.size w w' := by
  have c0 := hI.c0
  have c1 := hI.c1
  have c2 := hI.c2
  have c3 := hI.c3
  have c4 := hI.c4
  have hp := hI.st.lt
  clear hI
  go_enter Tryd.func45, Tryd.ntmps45
  go_wp2_with (fail)
  go_returns
  exact ⟨rfl, by first | exact Below.refl _ _ | exact (Below.refl _ _).alloc (Nat.le_refl _) _⟩
set_option maxRecDepth 100000 in
set_option maxHeartbeats 4000000 in
theorem lay_size (D : Dc w d p b L 3 f y B o s h l) (S1 S2 S3 : ByteArray) (x z : Int) (hno : ¬ (S1.size = L.u ∧ S2.size = L.d ∧ S3.size = L.r)) : Calls Tryd.prog 23 #[.pointer (some ⟨p, 0, none⟩), .pointer (some ⟨d, 0, none⟩), .agg #[.string S1, .string S2, .string S3, .int .i64 x, .int .i64 z]] w fun e w' => e = .returned (.int .i64 4) ∧ Below w.heap.size w w' := by
  have hcase : ((S1.size : Int) != (L.u : Int)) = true ∨ (((S1.size : Int) != (L.u : Int)) = false ∧ ((S2.size : Int) != (L.d : Int)) = true) ∨ (((S1.size : Int) != (L.u : Int)) = false ∧ ((S2.size : Int) != (L.d : Int)) = false ∧ ((S3.size : Int) != (L.r : Int)) = true) := by
    simp only [bne_iff_ne, bne_eq_false_iff_eq, ne_eq]
    omega
  clear hno
  have hA := Lib.hid (fun (W : World) (hb : Below w.heap.size w W) => asked_yes (D.bel hb))
  have hL := Lib.hid (fun (W : World) (hb : Below w.heap.size w W) => layoutm_any (D.bel hb).im)
  have hb0 : Below w.heap.size w (w.alloc (.cells #[.string S1, .string S2, .string S3, .int .i64 x, .int .i64 z] 23)) := (Below.refl _ _).alloc (Nat.le_refl _) _
  have hx := Bk.fresh w 23 #[.string S1, .string S2, .string S3, .int .i64 x, .int .i64 z]
  obtain ⟨X, hX⟩ : ∃ X, w.alloc (.cells #[.string S1, .string S2, .string S3, .int .i64 x, .int .i64 z] 23) = X := ⟨_, rfl⟩
  obtain ⟨q, hq⟩ : ∃ q, w.heap.size = q := ⟨_, rfl⟩
  have hyl : w.heap.size ≤ q := Nat.le_of_eq hq
  rw [hX, hq] at hx
  rw [hX] at hb0
  replace hx := Lib.hid hx
  replace hb0 := Lib.hid hb0
  replace hX := Lib.hid hX
  replace D := Lib.hid D
  go_enter Tryd.func23, Tryd.ntmps23
  go_wp2_with (fail)
  try rw [hX.out]
  refine (hA.out X hb0.out).mono ?_
  rintro e w1 ⟨rfl, n, hn⟩
  have hn := hn.symm
  subst hn
  have hW := Lib.hid (below_drawn hb0.out n)
  replace hx := Lib.hid (hx.out.draws n)
  obtain ⟨W1, hW1⟩ : ∃ W1, X.drewN n = W1 := ⟨_, rfl⟩
  rw [hW1] at hW hx ⊢
  clear hW1 hA hb0 hX
  go_wp2_with (fail)
  refine (hL.out W1 hW.out).mono ?_
  rintro e W2 ⟨rfl, hb⟩
  have hx2 := hx.out.kept hb hx.out.lt
  have hW2 := hW.out.trans (hb.mono hW.out.size)
  have hLb := Bk.fresh W2 49 #[.int .i64 L.k, .int .i64 L.s, .int .i64 L.u, .int .i64 L.d, .int .i64 L.r]
  have hW3 := hW2.alloc hW2.size (.cells #[.int .i64 L.k, .int .i64 L.s, .int .i64 L.u, .int .i64 L.d, .int .i64 L.r] 49)
  have hx3 := hx2.past (.cells #[.int .i64 L.k, .int .i64 L.s, .int .i64 L.u, .int .i64 L.d, .int .i64 L.r] 49)
  obtain ⟨W3, hw3⟩ : ∃ W3, W2.alloc (.cells #[.int .i64 L.k, .int .i64 L.s, .int .i64 L.u, .int .i64 L.d, .int .i64 L.r] 49) = W3 := ⟨_, rfl⟩
  obtain ⟨lb, hlb⟩ : ∃ lb, W2.heap.size = lb := ⟨_, rfl⟩
  rw [hw3, hlb] at hLb
  rw [hw3] at hW3 hx3
  have c0 := hx3.cell 0
  have c1 := hx3.cell 1
  have c2 := hx3.cell 2
  have c3 := hx3.cell 3
  have c4 := hx3.cell 4
  have k2 := hLb.cell 2
  have k3 := hLb.cell 3
  have k4 := hLb.cell 4
  simp at c0 c1 c2 c3 c4 k2 k3 k4
  rw [← hw3] at c0 c1 c2 c3 c4 k2 k3 k4
  replace hw3 := Lib.hid hw3
  replace hW3 := Lib.hid hW3
  replace hx3 := Lib.hid hx3
  clear hL hb hx2 hW2 hx hW hLb
  rcases hcase with h1 | ⟨h1, h2⟩ | ⟨h1, h2, h3⟩
  all_goals
    go_wp2_with (fail)
    go_returns
    exact ⟨rfl, by rw [hw3.out]; exact hW3.out⟩
set_option maxRecDepth 100000 in
set_option maxHeartbeats 4000000 in
theorem lay_back (D : Dc w d p b L 3 f y B o s h l) (S1 S2 S3 : ByteArray) (x z : Int) (h1 : S1.size = L.u) (h2 : S2.size = L.d) (h3 : S3.size = L.r) (hno : ¬ backOk f y x z) : Calls Tryd.prog 23 #[.pointer (some ⟨p, 0, none⟩), .pointer (some ⟨d, 0, none⟩), .agg #[.string S1, .string S2, .string S3, .int .i64 x, .int .i64 z]] w fun e w' => e = .returned (.int .i64 4) ∧ Below w.heap.size w w' := by
  have h1' : ((S1.size : Int) != (L.u : Int)) = false := by simp [h1]
  have h2' : ((S2.size : Int) != (L.d : Int)) = false := by simp [h2]
  have h3' : ((S3.size : Int) != (L.r : Int)) = false := by simp [h3]
  have hBk := Lib.hid (fun (W : World) (hb : Below w.heap.size w W) => back_bad (D.bel hb) x z hno)
  clear h1 h2 h3 hno
  have hA := Lib.hid (fun (W : World) (hb : Below w.heap.size w W) => asked_yes (D.bel hb))
  have hL := Lib.hid (fun (W : World) (hb : Below w.heap.size w W) => layoutm_any (D.bel hb).im)
  have hb0 : Below w.heap.size w (w.alloc (.cells #[.string S1, .string S2, .string S3, .int .i64 x, .int .i64 z] 23)) := (Below.refl _ _).alloc (Nat.le_refl _) _
  have hx := Bk.fresh w 23 #[.string S1, .string S2, .string S3, .int .i64 x, .int .i64 z]
  obtain ⟨X, hX⟩ : ∃ X, w.alloc (.cells #[.string S1, .string S2, .string S3, .int .i64 x, .int .i64 z] 23) = X := ⟨_, rfl⟩
  obtain ⟨q, hq⟩ : ∃ q, w.heap.size = q := ⟨_, rfl⟩
  have hyl : w.heap.size ≤ q := Nat.le_of_eq hq
  rw [hX, hq] at hx
  rw [hX] at hb0
  replace hx := Lib.hid hx
  replace hb0 := Lib.hid hb0
  replace hX := Lib.hid hX
  replace D := Lib.hid D
  go_enter Tryd.func23, Tryd.ntmps23
  go_wp2_with (fail)
  try rw [hX.out]
  refine (hA.out X hb0.out).mono ?_
  rintro e w1 ⟨rfl, n, hn⟩
  have hn := hn.symm
  subst hn
  have hW := Lib.hid (below_drawn hb0.out n)
  replace hx := Lib.hid (hx.out.draws n)
  obtain ⟨W1, hW1⟩ : ∃ W1, X.drewN n = W1 := ⟨_, rfl⟩
  rw [hW1] at hW hx ⊢
  clear hW1 hA hb0 hX
  go_wp2_with (fail)
  refine (hL.out W1 hW.out).mono ?_
  rintro e W2 ⟨rfl, hb⟩
  have hx2 := hx.out.kept hb hx.out.lt
  have hW2 := hW.out.trans (hb.mono hW.out.size)
  have hLb := Bk.fresh W2 49 #[.int .i64 L.k, .int .i64 L.s, .int .i64 L.u, .int .i64 L.d, .int .i64 L.r]
  have hW3 := hW2.alloc hW2.size (.cells #[.int .i64 L.k, .int .i64 L.s, .int .i64 L.u, .int .i64 L.d, .int .i64 L.r] 49)
  have hx3 := hx2.past (.cells #[.int .i64 L.k, .int .i64 L.s, .int .i64 L.u, .int .i64 L.d, .int .i64 L.r] 49)
  obtain ⟨W3, hw3⟩ : ∃ W3, W2.alloc (.cells #[.int .i64 L.k, .int .i64 L.s, .int .i64 L.u, .int .i64 L.d, .int .i64 L.r] 49) = W3 := ⟨_, rfl⟩
  obtain ⟨lb, hlb⟩ : ∃ lb, W2.heap.size = lb := ⟨_, rfl⟩
  rw [hw3, hlb] at hLb
  rw [hw3] at hW3 hx3
  have c0 := hx3.cell 0
  have c1 := hx3.cell 1
  have c2 := hx3.cell 2
  have c3 := hx3.cell 3
  have c4 := hx3.cell 4
  have k2 := hLb.cell 2
  have k3 := hLb.cell 3
  have k4 := hLb.cell 4
  simp at c0 c1 c2 c3 c4 k2 k3 k4
  rw [← hw3] at c0 c1 c2 c3 c4 k2 k3 k4
  replace hw3 := Lib.hid hw3
  replace hW3 := Lib.hid hW3
  replace hx3 := Lib.hid hx3
  clear hL hb hx2 hW2 hx hW hLb
  go_wp2_with (fail)
  try rw [hw3.out]
  refine (hBk.out W3 hW3.out).mono ?_
  rintro e w9 ⟨rfl, m, hm⟩
  have hW9 := Lib.hid (below_drawn hW3.out m)
  rw [← hm] at hW9
  clear hm
  go_wp2_with (fail)
  go_returns
  exact ⟨rfl, hW9.out⟩
set_option maxRecDepth 100000 in
set_option maxHeartbeats 4000000 in
theorem lay_yes (D : Dc w d p b L 3 f y B o s h l) (S1 S2 S3 : ByteArray) (x z : Int) (h1 : S1.size = L.u) (h2 : S2.size = L.d) (h3 : S3.size = L.r) (hok : backOk f y x z) : Calls Tryd.prog 23 #[.pointer (some ⟨p, 0, none⟩), .pointer (some ⟨d, 0, none⟩), .agg #[.string S1, .string S2, .string S3, .int .i64 x, .int .i64 z]] w fun e w' => e = .returned (.int .i64 0) ∧ Dc w' d p b L 3 f y (splice (splice (splice B (L.from_ 3) S1.data.toList) (L.from_ 4) S2.data.toList) (L.from_ 5) S3.data.toList) o s x.toNat z.toNat ∧ Onb b d w w' := by
  have h1' : ((S1.size : Int) != (L.u : Int)) = false := by simp [h1]
  have h2' : ((S2.size : Int) != (L.d : Int)) = false := by simp [h2]
  have h3' : ((S3.size : Int) != (L.r : Int)) = false := by simp [h3]
  have s1 : S1.size = L.to_ 3 - L.from_ 3 := by rw [h1]; show L.u = L.b4 - L.b3; unfold Lay.b4; omega
  have s2 : S2.size = L.to_ 4 - L.from_ 4 := by rw [h2]; show L.d = L.b5 - L.b4; unfold Lay.b5; omega
  have s3 : S3.size = L.to_ 5 - L.from_ 5 := by rw [h3]; show L.r = L.b6 - L.b5; unfold Lay.b6; omega
  have hbl : b < w.heap.size := D.im.by_.lt
  have hdl : d < w.heap.size := D.bk.lt
  have hBk := Lib.hid (fun (W : World) (hb : Below w.heap.size w W) => back_yes (D.bel hb) x z hok)
  clear h1 h2 h3 hok
  replace s1 := Lib.hid s1
  replace s2 := Lib.hid s2
  replace s3 := Lib.hid s3
  have hA := Lib.hid (fun (W : World) (hb : Below w.heap.size w W) => asked_yes (D.bel hb))
  have hL := Lib.hid (fun (W : World) (hb : Below w.heap.size w W) => layoutm_any (D.bel hb).im)
  have hb0 : Below w.heap.size w (w.alloc (.cells #[.string S1, .string S2, .string S3, .int .i64 x, .int .i64 z] 23)) := (Below.refl _ _).alloc (Nat.le_refl _) _
  have hx := Bk.fresh w 23 #[.string S1, .string S2, .string S3, .int .i64 x, .int .i64 z]
  obtain ⟨X, hX⟩ : ∃ X, w.alloc (.cells #[.string S1, .string S2, .string S3, .int .i64 x, .int .i64 z] 23) = X := ⟨_, rfl⟩
  obtain ⟨q, hq⟩ : ∃ q, w.heap.size = q := ⟨_, rfl⟩
  have hyl : w.heap.size ≤ q := Nat.le_of_eq hq
  rw [hX, hq] at hx
  rw [hX] at hb0
  replace hx := Lib.hid hx
  replace hb0 := Lib.hid hb0
  replace hX := Lib.hid hX
  replace D := Lib.hid D
  go_enter Tryd.func23, Tryd.ntmps23
  go_wp2_with (fail)
  try rw [hX.out]
  refine (hA.out X hb0.out).mono ?_
  rintro e w1 ⟨rfl, n, hn⟩
  have hn := hn.symm
  subst hn
  have hW := Lib.hid (below_drawn hb0.out n)
  replace hx := Lib.hid (hx.out.draws n)
  obtain ⟨W1, hW1⟩ : ∃ W1, X.drewN n = W1 := ⟨_, rfl⟩
  rw [hW1] at hW hx ⊢
  clear hW1 hA hb0 hX
  go_wp2_with (fail)
  refine (hL.out W1 hW.out).mono ?_
  rintro e W2 ⟨rfl, hb⟩
  have hx2 := hx.out.kept hb hx.out.lt
  have hW2 := hW.out.trans (hb.mono hW.out.size)
  have hLb := Bk.fresh W2 49 #[.int .i64 L.k, .int .i64 L.s, .int .i64 L.u, .int .i64 L.d, .int .i64 L.r]
  have hW3 := hW2.alloc hW2.size (.cells #[.int .i64 L.k, .int .i64 L.s, .int .i64 L.u, .int .i64 L.d, .int .i64 L.r] 49)
  have hx3 := hx2.past (.cells #[.int .i64 L.k, .int .i64 L.s, .int .i64 L.u, .int .i64 L.d, .int .i64 L.r] 49)
  obtain ⟨W3, hw3⟩ : ∃ W3, W2.alloc (.cells #[.int .i64 L.k, .int .i64 L.s, .int .i64 L.u, .int .i64 L.d, .int .i64 L.r] 49) = W3 := ⟨_, rfl⟩
  obtain ⟨lb, hlb⟩ : ∃ lb, W2.heap.size = lb := ⟨_, rfl⟩
  rw [hw3, hlb] at hLb
  rw [hw3] at hW3 hx3
  have c0 := hx3.cell 0
  have c1 := hx3.cell 1
  have c2 := hx3.cell 2
  have c3 := hx3.cell 3
  have c4 := hx3.cell 4
  have k2 := hLb.cell 2
  have k3 := hLb.cell 3
  have k4 := hLb.cell 4
  simp at c0 c1 c2 c3 c4 k2 k3 k4
  rw [← hw3] at c0 c1 c2 c3 c4 k2 k3 k4
  replace hw3 := Lib.hid hw3
  replace hW3 := Lib.hid hW3
  replace hx3 := Lib.hid hx3
  clear hL hb hx2 hW2 hx hW hLb
  go_wp2_with (fail)
  try rw [hw3.out]
  refine (hBk.out W3 hW3.out).mono ?_
  rintro e w4 ⟨rfl, D4, hO4⟩
  have hqb : q ≠ b := by omega
  have hqd : q ≠ d := by omega
  have x4 := hO4.bk hx3.out hqb hqd
  have O4 := (Onb.ofbel hW3.out : Onb b d w W3).trans hO4
  have c0 := x4.cell 0
  simp at c0
  have hp := Lib.hid (put_yes D4.im 3 S1 (by decide) (by decide) (by omega) s1.out)
  replace x4 := Lib.hid x4
  replace D4 := Lib.hid D4
  replace O4 := Lib.hid O4
  clear hO4 hBk
  go_wp2_with (fail)
  refine hp.out.mono ?_
  rintro e w5 ⟨rfl, I5, h5⟩
  have D5 := D4.out.turn I5 h5
  have x5 := (Onb.ofb (d := d) h5).bk x4.out hqb hqd
  have O5 := O4.out.trans (Onb.ofb h5)
  have c1 := x5.cell 1
  simp at c1
  have hp := Lib.hid (put_yes D5.im 4 S2 (by decide) (by decide) (by omega) s2.out)
  replace x5 := Lib.hid x5
  replace D5 := Lib.hid D5
  replace O5 := Lib.hid O5
  clear I5 h5 x4 D4 O4 c0
  go_wp2_with (fail)
  refine hp.out.mono ?_
  rintro e w6 ⟨rfl, I6, h6⟩
  have D6 := D5.out.turn I6 h6
  have x6 := (Onb.ofb (d := d) h6).bk x5.out hqb hqd
  have O6 := O5.out.trans (Onb.ofb h6)
  have c2 := x6.cell 2
  simp at c2
  have hp := Lib.hid (put_yes D6.im 5 S3 (by decide) (by decide) (by omega) s3.out)
  replace D6 := Lib.hid D6
  replace O6 := Lib.hid O6
  clear I6 h6 x5 D5 O5 c1 x6
  go_wp2_with (fail)
  refine hp.out.mono ?_
  rintro e w7 ⟨rfl, I7, h7⟩
  have D7 := D6.out.turn I7 h7
  have O7 := O6.out.trans (Onb.ofb h7)
  go_wp2_with (fail)
  go_returns
  exact ⟨rfl, D7, O7⟩
end
end Go.Proofs.YtpbloennjcjgoaaDoor
