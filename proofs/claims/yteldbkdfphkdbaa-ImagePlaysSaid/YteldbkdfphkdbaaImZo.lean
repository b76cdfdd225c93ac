import Derived.Test.YteldbkdfphkdbaaImZn1
import Derived.Test.YteldbkdfphkdbaaImZn2
import Derived.Test.YteldbkdfphkdbaaImZn3
import Derived.Test.YteldbkdfphkdbaaImZn4
import Derived.Test.YteldbkdfphkdbaaImZn5
import Derived.Test.YteldbkdfphkdbaaImZn6
import Derived.Test.YteldbkdfphkdbaaImZn7
import Derived.Test.YteldbkdfphkdbaaImZn8
import Derived.Test.YteldbkdfphkdbaaPostOps3
namespace Go.Proofs.Yteldbkdfphkdbaa
open Go.RowKit
set_option linter.unusedVariables false
set_option linter.unusedSimpArgs false
/-! alike, both, and the walk of ImagePlays -/
section
variable {v0 w : World} {F : List (Nat × TypeId × Array Value)} {pp p b p2 b2 y : Nat} {L : Lay} {B B2 : List UInt8} {o s o2' s2 : Bool} {o0 o1 o2 o3 o4 o5 o6 : Int} {fr : Bool} {tx : ByteArray}
theorem play_any (hT : Tw (Bz v0 F pp p p2) w p b p2 b2 L B o s B o s) (i0 : inI o0) (i1 : inI o1) (i2 : inI o2) (i3 : inI o3) (i4 : inI o4) (i5 : inI o5) (i6 : inI o6) (hx : tx.size ≤ 140737488351232) :
    Calls Try.prog 38 #[.pointer (some ⟨pp, 0, none⟩), .agg #[.int .i64 o0, .int .i64 o1, .int .i64 o2, .int .i64 o3, .int .i64 o4, .int .i64 o5, .int .i64 o6, .bool fr, .string tx]] w fun e w' => e = .returned (.bool true) ∧ Hid (∃ B' o' s', Tw (Bz v0 F pp p p2) w' p b p2 b2 L B' o' s' B' o' s') := by
  have hk := pickN_lt o0 14 (by decide)
  cases fr
  · rcases (by omega : pickN o0 14 = 0 ∨ pickN o0 14 = 1 ∨ pickN o0 14 = 2 ∨ pickN o0 14 = 3 ∨ pickN o0 14 = 4 ∨ pickN o0 14 = 5 ∨ pickN o0 14 = 6 ∨ pickN o0 14 = 7 ∨ pickN o0 14 = 8 ∨ pickN o0 14 = 9 ∨ (pickN o0 14 = 10 ∨ pickN o0 14 = 11 ∨ pickN o0 14 = 12 ∨ pickN o0 14 = 13)) with h | h | h | h | h | h | h | h | h | h | h
    · exact play_near_0 h hT i0 i1 i2 i3 i4 i5 i6 hx
    · exact play_near_1 h hT i0 i1 i2 i3 i4 i5 i6 hx
    · exact play_near_2 h hT i0 i1 i2 i3 i4 i5 i6 hx
    · exact play_near_3 h hT i0 i1 i2 i3 i4 i5 i6 hx
    · exact play_near_4 h hT i0 i1 i2 i3 i4 i5 i6 hx
    · exact play_near_5 h hT i0 i1 i2 i3 i4 i5 i6 hx
    · exact play_near_6 h hT i0 i1 i2 i3 i4 i5 i6 hx
    · exact play_near_7 h hT i0 i1 i2 i3 i4 i5 i6 hx
    · exact play_near_8 h hT i0 i1 i2 i3 i4 i5 i6 hx
    · exact play_near_9 h hT i0 i1 i2 i3 i4 i5 i6 hx
    · exact play_near_10 h hT i0 i1 i2 i3 i4 i5 i6 hx
  · rcases (by omega : pickN o0 14 = 0 ∨ pickN o0 14 = 1 ∨ pickN o0 14 = 2 ∨ pickN o0 14 = 3 ∨ pickN o0 14 = 4 ∨ pickN o0 14 = 5 ∨ pickN o0 14 = 6 ∨ pickN o0 14 = 7 ∨ pickN o0 14 = 8 ∨ pickN o0 14 = 9 ∨ (pickN o0 14 = 10 ∨ pickN o0 14 = 11 ∨ pickN o0 14 = 12 ∨ pickN o0 14 = 13)) with h | h | h | h | h | h | h | h | h | h | h
    · exact play_far_0 h hT i0 i1 i2 i3 i4 i5 i6 hx
    · exact play_far_1 h hT i0 i1 i2 i3 i4 i5 i6 hx
    · exact play_far_2 h hT i0 i1 i2 i3 i4 i5 i6 hx
    · exact play_far_3 h hT i0 i1 i2 i3 i4 i5 i6 hx
    · exact play_far_4 h hT i0 i1 i2 i3 i4 i5 i6 hx
    · exact play_far_5 h hT i0 i1 i2 i3 i4 i5 i6 hx
    · exact play_far_6 h hT i0 i1 i2 i3 i4 i5 i6 hx
    · exact play_far_7 h hT i0 i1 i2 i3 i4 i5 i6 hx
    · exact play_far_8 h hT i0 i1 i2 i3 i4 i5 i6 hx
    · exact play_far_9 h hT i0 i1 i2 i3 i4 i5 i6 hx
    · exact play_far_10 h hT i0 i1 i2 i3 i4 i5 i6 hx
set_option maxRecDepth 100000 in
set_option maxHeartbeats 8000000 in
theorem alike_any (hT : Tw (Bz v0 F pp p p2) w p b p2 b2 L B o s B o s) :
    Calls Try.prog 39 #[.pointer (some ⟨pp, 0, none⟩)] w fun e w' => e = .returned (.bool true) ∧ Hid (Tw (Bz v0 F pp p p2) w' p b p2 b2 L B o s B o s) := by
  replace hT := Lib.hid hT
  go_enter Try.func39, Try.ntmps39
  go_wp2_with (fail)
  go_loopw [3] (fun x wr => ∃ k : Nat, x = .int .i64 k ∧ k ≤ 7 ∧ Hid (Tw (Bz v0 F pp p p2) wr p b p2 b2 L B o s B o s)) (fun x _ => 7 - (intOf x).toNat)
  case atStart => exact ⟨0, rfl, Nat.zero_le _, hT⟩
  case round =>
    obtain ⟨k, rfl, hk0, hQ⟩ := hrel
    clear hT
    rename_i hQ
    have hT := hQ
    clear hQ
    by_cases hk : k < 7
    · have k7 : (k : Int) < 7 := by omega
      have k0 := hT.out.top.cell 0
      have k1 := hT.out.top.cell 1
      simp at k0 k1
      obtain ⟨T, hL, hR⟩ := two_part (w0 := Bz v0 F pp p p2) (p := p) (b := b) (p2 := p2) (b2 := b2) (L := L) (B := B) (o := o) (s := s) (k : Int)
      unfold LC at hL
      unfold DC at hR
      replace hL := Lib.hid hL
      replace hR := Lib.hid hR
      go_wp2_with (fail)
      go_region_held3 (fun w' => w'.cell? ⟨pp, 0, none⟩ = some (.pointer (some ⟨p, 0, none⟩)) ∧ w'.cell? ⟨pp, 1, none⟩ = some (.pointer (some ⟨p2, 0, none⟩))) ((simp [go_sem, *]))
        (first
          | (go_at_call 27; (with_reducible refine Calls.mono (hL.out _ _ _ _ (by first | exact hT.out | exact hT.out.drew)) ?_); rintro e w1_ ⟨rfl, hT⟩; have kS : w1_.cell? ⟨pp, 0, none⟩ = some (.pointer (some ⟨p, 0, none⟩)) ∧ w1_.cell? ⟨pp, 1, none⟩ = some (.pointer (some ⟨p2, 0, none⟩)) := ⟨hT.out.top.cell 0, hT.out.top.cell 1⟩)
          | (go_at_call 56; (with_reducible refine Calls.mono (hR.out _ _ _ _ (by first | exact hT.out | exact hT.out.drew)) ?_); rintro e w1_ ⟨rfl, hT⟩; have kS : w1_.cell? ⟨pp, 0, none⟩ = some (.pointer (some ⟨p, 0, none⟩)) ∧ w1_.cell? ⟨pp, 1, none⟩ = some (.pointer (some ⟨p2, 0, none⟩)) := ⟨hT.out.top.cell 0, hT.out.top.cell 1⟩))
      all_goals (
        go_wp2_with (fail)
        refine ⟨⟨k + 1, rfl, by omega, Lib.hid (by first | exact hT.out | exact hT.out.drew)⟩, ?_⟩
        simp [intOf]; omega
      )
    · have k7 : ¬ (k : Int) < 7 := by omega
      go_wp2_with (fail)
      go_returns
      exact ⟨rfl, hT⟩
end
set_option maxRecDepth 100000 in
set_option maxHeartbeats 4000000 in
theorem both_any (L : Lay) (hL : L.ok) (w : World) : Calls Try.prog 36 #[LV L] w fun e w' => ∃ p b p2 b2, e = .returned (.tuple #[.pointer (some ⟨p, 0, none⟩), .pointer (some ⟨p2, 0, none⟩)]) ∧ Tw ⟨w, []⟩ w' p b p2 b2 L (List.replicate L.b6 0) false false (List.replicate L.b6 0) false false := by
  have hnw := fun W => new_yes L hL W
  have hrn := fun W => rnew_yes L hL W
  unfold LV layV at *
  replace hnw := Lib.hid hnw
  replace hrn := Lib.hid hrn
  replace hL := Lib.hid hL
  go_enter Try.func36, Try.ntmps36
  go_wp2_with (fail)
  have hK := Bk.fresh w 23 #[.int .i64 L.k, .int .i64 L.s, .int .i64 L.u, .int .i64 L.d, .int .i64 L.r]
  have hB := (Below.refl w.heap.size w).alloc (Nat.le_refl _) (.cells #[.int .i64 L.k, .int .i64 L.s, .int .i64 L.u, .int .i64 L.d, .int .i64 L.r] 23)
  obtain ⟨V, hV⟩ : ∃ V, w.alloc (.cells #[.int .i64 L.k, .int .i64 L.s, .int .i64 L.u, .int .i64 L.d, .int .i64 L.r] 23) = V := ⟨_, rfl⟩
  rw [hV] at hK hB ⊢
  clear hV
  obtain ⟨lb, hlb⟩ : ∃ lb, w.heap.size = lb := ⟨_, rfl⟩
  rw [hlb] at hK ⊢
  replace hlb := Lib.hid hlb
  refine (hnw.out V).mono ?_
  rintro e w2 ⟨p, b, rfl, hI, hp, hq, hb⟩
  have hp := Nat.le_trans hB.size hp
  have hq := Nat.le_trans hB.size hq
  replace hK := hK.kept hb hK.lt
  replace hB := hB.trans (hb.mono hB.size)
  clear hb
  have d0 := hK.cell 0
  have d1 := hK.cell 1
  have d2 := hK.cell 2
  have d3 := hK.cell 3
  have d4 := hK.cell 4
  simp at d0 d1 d2 d3 d4
  replace hI := Lib.hid hI
  replace hB := Lib.hid hB
  replace hp := Lib.hid hp
  replace hq := Lib.hid hq
  go_wp2_with (fail)
  refine (hrn.out w2).mono ?_
  rintro e w3 ⟨p2, b2, rfl, hI2, hp2, hq2, hb⟩
  have hne : b ≠ b2 := by
    have := hI.out.by_.lt
    omega
  have hT : Tw ⟨w, []⟩ w3 p b p2 b2 L (List.replicate L.b6 0) false false (List.replicate L.b6 0) false false :=
    ⟨hI.out.bel hb, hI2, hne, ⟨hp.out, hq.out, Nat.le_trans hB.out.size hp2, Nat.le_trans hB.out.size hq2⟩, hB.out.trans (hb.mono hB.out.size), fun _ h => by cases h⟩
  replace hT := Lib.hid hT
  clear hp2 hq2 hb hI2 hne
  go_wp2_with (fail)
  go_returns
  exact ⟨p, b, p2, b2, rfl, hT.out⟩
set_option maxRecDepth 100000 in
set_option maxHeartbeats 8000000 in
theorem walk_iplays (a0 a1 a2 a3 a4 : Int) (A2 : Option Addr) (n2 c2 : Nat) (w : World) (h0 : inI a0) (h1 : inI a1) (h2 : inI a2) (h3 : inI a3) (h4 : inI a4) (hops : Ops3 w A2 n2) :
    Calls Try.prog 9 #[.agg #[.int .i64 a0, .int .i64 a1, .int .i64 a2, .int .i64 a3, .int .i64 a4], .slice A2 n2 c2] w fun e w' => e = .returned (.bool true) ∧ Below w.heap.size w w' := by
  have hlay := fun W => layout_any a0 a1 a2 a3 a4 W h0 h1 h2 h3 h4
  have hL := layOf_ok a0 a1 a2 a3 a4
  generalize layOf a0 a1 a2 a3 a4 = L at *
  have hbo := fun W => both_any L hL W
  unfold LV layV at hlay hbo
  have hn2 := hops.1
  have hn2I : (n2 : Int) ≤ 140737488351232 := by omega
  replace hops := Lib.hid hops
  replace hlay := Lib.hid hlay
  replace hbo := Lib.hid hbo
  replace hL := Lib.hid hL
  clear h0 h1 h2 h3 h4
  go_enter Try.func9, Try.ntmps9
  go_wp2_with (fail)
  have hBx := Bk.fresh w 39 #[.int .i64 a0, .int .i64 a1, .int .i64 a2, .int .i64 a3, .int .i64 a4]
  have hlx : Below w.heap.size w (w.alloc (.cells #[.int .i64 a0, .int .i64 a1, .int .i64 a2, .int .i64 a3, .int .i64 a4] 39)) := (Below.refl _ _).alloc (Nat.le_refl _) _
  obtain ⟨X, hX⟩ : ∃ X, w.alloc (.cells #[.int .i64 a0, .int .i64 a1, .int .i64 a2, .int .i64 a3, .int .i64 a4] 39) = X := ⟨_, rfl⟩
  rw [hX] at hBx hlx ⊢
  obtain ⟨y, hy⟩ : ∃ y, w.heap.size = y := ⟨_, rfl⟩
  rw [hy] at hBx ⊢
  clear hX hy
  refine (shown_any X).mono ?_
  rintro e w1 ⟨rfl, hb1⟩
  replace hBx := hBx.kept hb1 hBx.lt
  have Hb1 := hlx.trans (hb1.mono hlx.size)
  have x0 := hBx.cell 0
  have x1 := hBx.cell 1
  have x2 := hBx.cell 2
  have x3 := hBx.cell 3
  have x4 := hBx.cell 4
  simp at x0 x1 x2 x3 x4
  clear hBx hb1 hlx
  go_wp2_with (fail)
  refine (hlay.out w1).mono ?_
  rintro e w2 ⟨rfl, hb2⟩
  have Hb2 := Hb1.trans (hb2.mono Hb1.size)
  clear x0 x1 x2 x3 x4 hb2 Hb1
  go_wp2_with (fail)
  refine (hbo.out w2).mono ?_
  rintro e w3 ⟨p, b, p2, b2, rfl, hT⟩
  have hT3 := hT.made 71 #[.pointer (some ⟨p, 0, none⟩), .pointer (some ⟨p2, 0, none⟩)]
  replace hT3 := Lib.hid hT3
  replace Hb2 := Lib.hid Hb2
  clear hT
  go_wp2_with (fail)
  obtain ⟨pp, hpp⟩ : ∃ pp, w3.heap.size = pp := ⟨_, rfl⟩
  obtain ⟨X3, hX3⟩ : ∃ X, w3.alloc (.cells #[.pointer (some ⟨p, 0, none⟩), .pointer (some ⟨p2, 0, none⟩)] 71) = X := ⟨_, rfl⟩
  rw [hpp, hX3] at hT3
  rw [hX3, hpp]
  clear hpp hX3
  have hJ : Hid (∃ B' o' s', Tw (Bz w2 [] pp p p2) X3 p b p2 b2 L B' o' s' B' o' s') := Lib.hid ⟨_, _, _, hT3.out⟩
  clear hT3
  go_loopw [9] (fun x wr => ∃ j : Nat, x = .int .i64 j ∧ j ≤ n2 ∧ Hid (∃ B' o' s', Tw (Bz w2 [] pp p p2) wr p b p2 b2 L B' o' s' B' o' s')) (fun x _ => n2 - (intOf x).toNat)
  case atStart => exact ⟨0, rfl, Nat.zero_le _, hJ⟩
  case round =>
    obtain ⟨j, rfl, hj0, hR⟩ := hrel
    obtain ⟨B', o', s', hT⟩ := hR.out
    clear hJ hR
    by_cases hj : j < n2
    · have j0 : (j : Int) < (n2 : Int) := by omega
      obtain ⟨ob, oo, o0, o1, o2, o3, o4, o5, o6, fr, tx, rfl, hlt, g0, g1, g2, g3, g4, g5, g6, g7, g8, r0, r1, r2, r3, r4, r5, r6, htx⟩ := hops.out.2 j hj
      have hBe := Hb2.out.trans (hT.be.mono Hb2.out.size)
      have g0 := (hBe.cell (p := ⟨ob, oo + j * 9, none⟩) hlt).trans g0
      have g1 := (hBe.cell (p := ⟨ob, oo + j * 9 + 1, none⟩) hlt).trans g1
      have g2 := (hBe.cell (p := ⟨ob, oo + j * 9 + 2, none⟩) hlt).trans g2
      have g3 := (hBe.cell (p := ⟨ob, oo + j * 9 + 3, none⟩) hlt).trans g3
      have g4 := (hBe.cell (p := ⟨ob, oo + j * 9 + 4, none⟩) hlt).trans g4
      have g5 := (hBe.cell (p := ⟨ob, oo + j * 9 + 5, none⟩) hlt).trans g5
      have g6 := (hBe.cell (p := ⟨ob, oo + j * 9 + 6, none⟩) hlt).trans g6
      have g7 := (hBe.cell (p := ⟨ob, oo + j * 9 + 7, none⟩) hlt).trans g7
      have g8 := (hBe.cell (p := ⟨ob, oo + j * 9 + 8, none⟩) hlt).trans g8
      have hpl := Lib.hid (play_any (o0 := o0) (o1 := o1) (o2 := o2) (o3 := o3) (o4 := o4) (o5 := o5) (o6 := o6) (fr := fr) (tx := tx) hT r0 r1 r2 r3 r4 r5 r6 htx)
      clear hT hBe r0 r1 r2 r3 r4 r5 r6 htx
      go_wp2_with (fail)
      refine hpl.out.mono ?_
      rintro e w4 ⟨rfl, hT4⟩
      clear g0 g1 g2 g3 g4 g5 g6 g7 g8 hpl
      go_wp2_with (fail)
      refine ⟨⟨j + 1, rfl, by omega, hT4⟩, ?_⟩
      simp [intOf]; omega
    · have j0 : ¬ (j : Int) < (n2 : Int) := by omega
      have hal := Lib.hid (alike_any hT)
      clear hT
      go_wp2_with (fail)
      refine hal.out.mono ?_
      rintro e w5 ⟨rfl, hT5⟩
      go_wp2_with (fail)
      go_returns
      exact ⟨rfl, Hb2.out.trans (hT5.out.be.mono Hb2.out.size)⟩
end Go.Proofs.Yteldbkdfphkdbaa
