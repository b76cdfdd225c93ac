import Derived.Test.YteldbkdfphkdbaaImU
import Derived.Test.YteldbkdfphkdbaaPostOps3
namespace Go.Proofs.Yteldbkdfphkdbaa
open Go.RowKit
set_option linter.unusedVariables false
set_option linter.unusedSimpArgs false
/-! ImageKernel -/
theorem part_same {L : Lay} {B B' : List UInt8} (hl : B'.length = B.length) (r : Int) (key : ∀ i, L.from_ r ≤ i → i < L.to_ r → B'.getD i 0 = B.getD i 0) : partL L B' r = partL L B r := by
  unfold partL
  apply List.ext_getElem
  · rw [List.length_take, List.length_take, List.length_drop, List.length_drop, hl]
  · intro i h1 h2
    rw [List.length_take, List.length_drop] at h1 h2
    have := key (L.from_ r + i) (by omega) (by omega)
    rw [List.getD_eq_getElem?_getD, List.getD_eq_getElem?_getD, List.getElem?_eq_getElem (by omega), List.getElem?_eq_getElem (by omega)] at this
    simpa using this
/-- behind the seal no mode may write these -/
theorem kept_part {o : Bool} {md : Int} {L : Lay} (hL : L.ok) {B B' : List UInt8} (h : Kept o md L B B') (r : Nat) (h1 : 1 ≤ r) (h5 : r ≤ 5) (hm : mayN o true md r ≠ 3) : partL L B' (r : Int) = partL L B (r : Int) := by
  refine part_same h.1 r fun i hf ht => h.2 i fun q q1 q5 q3 hin => ?_
  rw [show L.from_ r = L.beg r by unfold Lay.from_; rw [if_neg (by omega), if_neg (by omega)]; simp] at hf
  rw [show L.to_ r = L.beg (r + 1) by unfold Lay.to_; rw [if_neg (by omega), if_neg (by omega)]; simp] at ht
  have m := Lay.mono hL
  have hne : q ≠ r := fun e => hm (by rw [← e]; exact q3)
  rcases (by omega : q = 1 ∨ q = 2 ∨ q = 3 ∨ q = 4 ∨ q = 5) with rfl | rfl | rfl | rfl | rfl <;> rcases (by omega : r = 1 ∨ r = 2 ∨ r = 3 ∨ r = 4 ∨ r = 5) with rfl | rfl | rfl | rfl | rfl <;> first | exact absurd rfl hne | (simp only [Lay.beg] at hf ht hin; omega)
theorem load_kernel {L : Lay} (hL : L.ok) {B : List UInt8} (hl : B.length = L.b6) (S : List UInt8) (hS : S.length ≤ L.to_ 2 - L.from_ 2) : partL L (loadL B (L.from_ 2) (L.to_ 2 - L.from_ 2) S) 1 = partL L B 1 := by
  have m := Lay.mono hL
  have e1 : L.from_ 2 = L.b2 := rfl
  have e2 : L.to_ 2 = L.b3 := rfl
  rw [e1, e2] at hS ⊢
  have hf : L.b2 + S.length ≤ B.length := by omega
  have hl1 : (splice B L.b2 S).length = B.length := splice_len _ _ _ hf
  unfold loadL
  refine part_same (by rw [splice_len _ _ _ (by rw [List.length_replicate, hl1]; omega), hl1]) 1 fun i _ ht => ?_
  have ht : i < L.b2 := ht
  rw [getD_lo _ _ _ _ (by rw [List.length_replicate, hl1]; omega) (by omega), getD_lo _ _ _ _ hf ht]
set_option maxRecDepth 100000 in
set_option maxHeartbeats 4000000 in
theorem walk_kernel (a0 a1 a2 a3 a4 z : Int) (A2 : Option Addr) (n2 c2 : Nat) (S : ByteArray) (w : World) (h0 : inI a0) (h1 : inI a1) (h2 : inI a2) (h3 : inI a3) (h4 : inI a4) (hz : inI z) (hops : Ops3 w A2 n2) (hS : S.size ≤ 140737488351232) :
    Calls Try.prog 8 #[.agg #[.int .i64 a0, .int .i64 a1, .int .i64 a2, .int .i64 a3, .int .i64 a4], .int .i64 z, .slice A2 n2 c2, .string S] w fun e w' => e = .returned (.bool true) ∧ Below w.heap.size w w' := by
  have hfil := fun W => filled_any a0 a1 a2 a3 a4 z false true W h0 h1 h2 h3 h4 hz
  have hL := layOf_ok a0 a1 a2 a3 a4
  generalize layOf a0 a1 a2 a3 a4 = L at *
  have hn2 := hops.1
  have hn2I : (n2 : Int) ≤ 140737488351232 := by omega
  replace hops := Lib.hid hops
  replace hfil := Lib.hid hfil
  replace hL := Lib.hid hL
  clear h0 h1 h2 h3 h4 hz
  go_enter Try.func8, Try.ntmps8
  go_wp2_with (fail)
  have hBx := Bk.fresh w 39 #[.int .i64 a0, .int .i64 a1, .int .i64 a2, .int .i64 a3, .int .i64 a4]
  have hlx : Below w.heap.size w (w.alloc (.cells #[.int .i64 a0, .int .i64 a1, .int .i64 a2, .int .i64 a3, .int .i64 a4] 39)) := (Below.refl _ _).alloc (Nat.le_refl _) _
  obtain ⟨X, hX⟩ : ∃ X, w.alloc (.cells #[.int .i64 a0, .int .i64 a1, .int .i64 a2, .int .i64 a3, .int .i64 a4] 39) = X := ⟨_, rfl⟩
  rw [hX] at hBx hlx ⊢
  obtain ⟨y, hy⟩ : ∃ y, w.heap.size = y := ⟨_, rfl⟩
  rw [hy] at hBx ⊢
  clear hX hy
  refine (shown_any X).mono ?_
  rintro e w1 ⟨rfl, hb1⟩
  replace hBx := hBx.kept hb1 hBx.lt
  have Hb1 := hlx.trans (hb1.mono hlx.size)
  have x0 := hBx.cell 0
  have x1 := hBx.cell 1
  have x2 := hBx.cell 2
  have x3 := hBx.cell 3
  have x4 := hBx.cell 4
  simp at x0 x1 x2 x3 x4
  clear hBx hb1 hlx
  go_wp2_with (fail)
  refine (hfil.out w1).mono ?_
  rintro e w2 ⟨p, q, B, rfl, hI, zp, zq, hb2⟩
  have zq : w.heap.size ≤ q := Nat.le_trans Hb1.size zq
  have Hb2 := Hb1.trans (hb2.mono Hb1.size)
  clear x0 x1 x2 x3 x4 hb2 zp Hb1
  replace hI := Lib.hid hI
  go_wp2_with (fail)
  refine (Part_any hI.out 1).mono ?_
  rintro e w3 ⟨rfl, m3, hw3⟩
  have hI3 := Lib.hid (by rw [hw3]; exact hI.out.draws m3 : Im w3 p q L B false true)
  have Hb3 : Below w.heap.size w w3 := by rw [hw3]; exact Hb2.trans ⟨rfl, rfl, rfl, Nat.le_refl _, fun _ _ => rfl⟩
  obtain ⟨K, hK⟩ : ∃ K : ByteArray, ⟨(partL L B 1).toArray⟩ = K := ⟨_, rfl⟩
  rw [hK]
  have hlB := hI3.out.len
  replace hK := Lib.hid hK
  clear hw3 hI Hb2
  have hJ : Hid (∃ B', Im w3 p q L B' false true ∧ Kept false 0 L B B' ∧ Below w.heap.size w w3) := Lib.hid ⟨B, hI3.out, Kept.refl _ _ _ _, Hb3⟩
  clear hI3 Hb3
  go_wp2_with (fail)
  go_loopw [12] (fun x wr => ∃ j : Nat, x = .int .i64 j ∧ j ≤ n2 ∧ Hid (∃ B', Im wr p q L B' false true ∧ Kept false 0 L B B' ∧ Below w.heap.size w wr)) (fun x _ => n2 - (intOf x).toNat)
  case atStart => exact ⟨0, rfl, Nat.zero_le _, hJ⟩
  case round =>
    obtain ⟨j, rfl, hj0, hR⟩ := hrel
    obtain ⟨B', hI, hKe, hBe⟩ := hR.out
    by_cases hj : j < n2
    · have j0 : (j : Int) < (n2 : Int) := by omega
      obtain ⟨ob, oo, o0, o1, o2, o3, o4, o5, o6, fr, tx, rfl, hlt, g0, g1, g2, g3, g4, g5, g6, g7, g8, r0, r1, r2, r3, r4, r5, r6, htx⟩ := hops.out.2 j hj
      have g0 := (hBe.cell (p := ⟨ob, oo + j * 9, none⟩) hlt).trans g0
      have g1 := (hBe.cell (p := ⟨ob, oo + j * 9 + 1, none⟩) hlt).trans g1
      have g2 := (hBe.cell (p := ⟨ob, oo + j * 9 + 2, none⟩) hlt).trans g2
      have g3 := (hBe.cell (p := ⟨ob, oo + j * 9 + 3, none⟩) hlt).trans g3
      have g4 := (hBe.cell (p := ⟨ob, oo + j * 9 + 4, none⟩) hlt).trans g4
      have g5 := (hBe.cell (p := ⟨ob, oo + j * 9 + 5, none⟩) hlt).trans g5
      have g6 := (hBe.cell (p := ⟨ob, oo + j * 9 + 6, none⟩) hlt).trans g6
      have g7 := (hBe.cell (p := ⟨ob, oo + j * 9 + 7, none⟩) hlt).trans g7
      have g8 := (hBe.cell (p := ⟨ob, oo + j * 9 + 8, none⟩) hlt).trans g8
      have hW := Lib.hid (writes_any (md := 0) hI o0 o1 o2 o3 o4 o5 o6 fr tx r0 r2 r3 r4 r5 r6)
      replace hKe := Lib.hid hKe
      replace hBe := Lib.hid hBe
      clear hI r0 r1 r2 r3 r4 r5 r6 hR
      go_wp2_with (fail)
      refine hW.out.mono ?_
      rintro e w4 ⟨f, B4, rfl, hf, _, hI4, hK4, hO4⟩
      have hN : Hid (∃ B', Im w4 p q L B' false true ∧ Kept false 0 L B B' ∧ Below w.heap.size w w4) := Lib.hid ⟨B4, hI4, hKe.out.trans hK4, hBe.out.trans (hO4.below zq hBe.out.size)⟩
      clear hI4 hK4 hO4 g0 g1 g2 g3 g4 g5 g6 g7 g8 hW
      rcases hf with rfl | rfl
      · go_wp2_with (fail)
        refine ⟨⟨j + 1, rfl, by omega, hN⟩, ?_⟩
        simp [intOf]; omega
      · go_wp2_with (fail)
        refine ⟨⟨j + 1, rfl, by omega, hN⟩, ?_⟩
        simp [intOf]; omega
    · have j0 : ¬ (j : Int) < (n2 : Int) := by omega
      have hk := kept_part hL.out hKe 1 (by decide) (by decide) (by decide)
      have hload : Calls Try.prog 29 #[.pointer (some ⟨p, 0, none⟩), .string S] wr fun e w' => ∃ f B5, e = .returned (.int .i64 f) ∧ Im w' p q L B5 false true ∧ partL L B5 1 = partL L B 1 ∧ Below w.heap.size w w' := by
        by_cases hlong : L.to_ 2 - L.from_ 2 < S.size
        · exact (load_long hI S hlong (by omega)).mono fun e w' ⟨g1, n, g2⟩ => ⟨2, B', g1, by rw [g2]; exact hI.draws n, hk, by rw [g2]; exact hBe.trans ⟨rfl, rfl, rfl, Nat.le_refl _, fun _ _ => rfl⟩⟩
        · refine (load_yes hI S (by omega)).mono fun e w' ⟨g1, g2, g3⟩ => ⟨0, _, g1, g2, ?_, hBe.trans (g3.below zq hBe.size)⟩
          rw [load_kernel hL.out hI.len _ (by rw [data_size]; omega)]
          exact hk
      replace hload := Lib.hid hload
      clear hR hI hKe hBe hk
      go_wp2_with (fail)
      refine hload.out.mono ?_
      rintro e w5 ⟨f5, B5, rfl, hI5, hP5, hB5⟩
      replace hI5 := Lib.hid hI5
      replace hB5 := Lib.hid hB5
      go_wp2_with (fail)
      refine (put_sealed hI5.out K).mono ?_
      rintro e w6 ⟨rfl, hw_⟩
      have hw_ := hw_.symm
      subst hw_
      have hpart := Part_any hI5.out 1
      rw [hP5, hK.out] at hpart
      clear hP5
      go_wp2_with (fail)
      refine hpart.mono ?_
      rintro e w7 ⟨rfl, m7, hw7⟩
      have hI7 := Lib.hid (by rw [hw7]; exact hI5.out.draws m7 : Im w7 p q L B5 false true)
      have hB7 := Lib.hid (by rw [hw7]; exact hB5.out.trans ⟨rfl, rfl, rfl, Nat.le_refl _, fun _ _ => rfl⟩ : Below w.heap.size w w7)
      clear hw7 hpart
      go_wp2_with (fail)
      refine (open_no hI7.out).mono ?_
      rintro e w8 ⟨rfl, hw_⟩
      have hw_ := hw_.symm
      subst hw_
      go_wp2_with (fail)
      refine (seal_no hI7.out).mono ?_
      rintro e w8 ⟨rfl, hw_⟩
      have hw_ := hw_.symm
      subst hw_
      go_wp2_with (fail)
      go_returns
      exact ⟨rfl, hB7.out⟩
end Go.Proofs.Yteldbkdfphkdbaa
