import Derived.Test.YtoaiiimnfgbcaaaDcI
namespace Go.Proofs.Ytoaiiimnfgbcaaa
open Go.RowKit
set_option linter.unusedVariables false
set_option linter.unusedSimpArgs false
/-! law's known, shown -/
theorem walk_nil (B : List UInt8) (f y : Nat) (hf : 0 < f) : walkP B f y 0 = [] := by
  unfold walkP walkF
  have : headP B f y ((0 : Nat) : Int) = none := by unfold headP; rw [if_neg (by omega)]
  rw [this]
theorem walk_one {B : List UInt8} {f y a : Nat} {x : Wd} (hf : 0 < f) (ha : 0 < a) (h : headP B f y (a : Int) = some (x, 0)) : walkP B f y a = [x] := by
  unfold walkP walkF
  rw [h]
  simp only
  rw [if_neg (by omega)]
  cases a with
  | zero => omega
  | succ a =>
    unfold walkF
    have : headP B f y 0 = none := by unfold headP; rw [if_neg (by omega)]
    rw [this]
section
variable {w : World} {d p b r f y h l : Nat} {L : Lay} {B : List UInt8} {o s : Bool}
set_option maxHeartbeats 2000000 in
theorem known_yes (D : Dc w d p b L r f y B o s h l) (nm : ByteArray) (hs : nm.size ≤ maxLen) (x : Wd) (hx : findP (walkP B f y l) nm = some x) : Calls Try.prog 26 #[.pointer (some ⟨d, 0, none⟩), .string nm, .int .i64 x.hd, .int .i64 x.xt] w fun e w' => e = .returned (.bool true) ∧ Below w.heap.size w w' := by
  have hF := find_any D nm hs
  rw [hx] at hF
  simp only [Option.getD_some, Option.isSome_some, wdV] at hF
  replace hF := Lib.hid hF
  clear hx
  obtain ⟨xn, xh, xx, xi, xd, xl⟩ := x
  go_enter Try.func26, Try.ntmps26
  go_wp2_with (fail)
  refine hF.out.mono ?_
  rintro e w1 ⟨rfl, hw1⟩
  replace hw1 := Lib.hid hw1
  go_wp2_with (fail)
  go_returns
  exact ⟨rfl, hw1.out.alloc hw1.out.size _⟩
end
def nmAB : ByteArray := ⟨#[65, 66]⟩
def nmab : ByteArray := ⟨#[97, 98]⟩
theorem ok_AB : nameOk nmAB = true := by decide +kernel
theorem same_AB : sameOk nmAB nmab = true := by
  unfold sameOk
  refine decide_eq_true ⟨rfl, fun i _ hi => ?_⟩
  have hi : i < 2 := hi
  rcases (by omega : i = 0 ∨ i = 1) with rfl | rfl <;> decide +kernel
theorem early_none (B : List UInt8) (hB : 16640 ≤ B.length) : findP (walkP (crB B 16392 0 nmAB) 16392 16640 16392) nmab = none := by
  have h := head_cr B 16392 16640 16392 0 nmAB (by decide) (by decide) (by decide) (by decide) hB (by decide)
  rw [show upN 16392 = 16392 from rfl] at h
  rw [walk_one (x := ⟨nmAB, 16392, crH 16392 nmAB.size, false, true, false⟩) (by decide) (by decide) h]
  rfl
theorem late_some (B : List UInt8) (hB : 16640 ≤ B.length) : findP (walkP (mkB 0 16640 16392 false (crB B 16392 0 nmAB)) 16392 16640 16392) nmab = some ⟨nmAB, 16392, 16408, false, false, false⟩ := by
  have h := head_sh B 16392 16640 16392 0 nmAB (by decide) (by decide) (by decide) (by decide) (by decide) hB (by decide)
  rw [show upN 16392 = 16392 from rfl] at h
  rw [walk_one (x := ⟨nmAB, 16392, 16408, false, false, false⟩) (by decide) (by decide) h]
  unfold findP hitP
  simp [same_AB]
set_option maxHeartbeats 4000000 in
set_option maxRecDepth 100000 in
theorem shown_any (w : World) : Calls Try.prog 7 #[] w fun e w' => e = .returned (.bool true) ∧ Below w.heap.size w w' := by
  have hl2 : nmAB.size ≤ maxLen := by decide
  have hl3 : nmab.size ≤ maxLen := by decide
  go_enter Try.func7, Try.ntmps7
  go_wp2_with (fail)
  have hn := new_any 16384 0 256 64 64 w
  unfold layV at hn
  refine hn.mono ?_
  intro e w1 hN
  obtain ⟨L, p, b, ek, es, eu, ed, er, rfl, hI, z1, z2, hb1⟩ := hN.1 (by unfold layOk sizeOk; omega)
  clear hn hN
  have g3 : L.beg 3 = 16384 := by simp only [Lay.beg, Lay.b2, Lay.b3, Lay.b4]; omega
  have g4 : L.beg 4 = 16640 := by simp only [Lay.beg, Lay.b2, Lay.b3, Lay.b4]; omega
  have hBl : 16640 ≤ (List.replicate L.b6 (0 : UInt8)).length := by
    rw [List.length_replicate]
    have := hI.ok
    simp only [Lay.b2, Lay.b3, Lay.b4, Lay.b5, Lay.b6]; omega
  have hlo := hI.ok
  obtain ⟨B, hB⟩ : ∃ B, List.replicate L.b6 (0 : UInt8) = B := ⟨_, rfl⟩
  rw [hB] at hI hBl
  have e1 := early_none B hBl
  have e2 := late_some B hBl
  clear hB ek es eu ed er hlo hBl
  have g3 : L.beg 3 = 16384 := g3
  replace hI := Lib.hid hI
  replace e1 := Lib.hid e1
  replace e2 := Lib.hid e2
  replace hl2 := Lib.hid hl2
  replace hl3 := Lib.hid hl3
  have hc := Lib.hid (show shut 3 false = false from rfl)
  go_wp2_with (fail)
  refine (dnew_any hI.out 3 (.inr rfl)).mono ?_
  rintro e w2 ⟨d, hd, rfl, D0, hb2⟩
  rw [g3, show L.beg (3 + 1) = 16640 from g4] at D0
  replace hb2 := Lib.hid (hb1.trans (hb2.mono hb1.size))
  replace z3 := Lib.hid (Nat.le_trans hb1.size hd)
  replace D0 := Lib.hid (show Dc w2 d p b L 3 16392 16640 B false false 16392 0 from D0)
  clear hb1 hd hI g3 g4
  go_wp2_with (fail)
  refine (here_any D0.out).mono ?_
  rintro e w3 ⟨rfl, rfl⟩
  go_wp2_with (fail)
  have k1 := cr_yes D0.out nmAB hl2.out ok_AB (by decide) hc.out
  rw [show crH 16392 nmAB.size = 16408 from rfl, show upN 16392 = 16392 from rfl] at k1
  refine k1.mono ?_
  rintro e w4 ⟨rfl, D1, hO⟩
  replace hb2 := Lib.hid (hb2.out.trans (hO.below z2 z3.out hb2.out.size))
  replace D1 := Lib.hid D1
  clear k1 hO D0
  go_wp2_with (fail)
  have k2 := find_any D1.out nmab hl3.out
  rw [e1.out] at k2
  refine k2.mono ?_
  rintro e w5 ⟨rfl, hO⟩
  replace D1 := Lib.hid (D1.out.bel hO)
  replace hb2 := Lib.hid (hb2.out.trans (hO.mono hb2.out.size))
  clear k2 hO e1
  simp only [Option.getD_none, Option.isSome_none, wdV, wd0]
  go_wp2_with (fail)
  refine (flag_0 (D1.out.bel ((Below.refl _ _).alloc (Nat.le_refl _) _))).mono ?_
  rintro e w6 ⟨rfl, D2, hO⟩
  rw [hc.out] at D2
  have hb5 : Below w.heap.size w (w5.alloc (.cells #[.string ⟨#[]⟩, .int .i64 0, .int .i64 0, .bool false, .bool false, .bool false] 34)) := hb2.out.alloc hb2.out.size _
  replace hb2 := Lib.hid (hb5.trans (hO.below z2 z3.out hb5.size))
  replace D2 := Lib.hid D2
  clear hO D1 hb5
  obtain ⟨B2, hB2⟩ : ∃ B2, mkB 0 16640 16392 false (crB B 16392 0 nmAB) = B2 := ⟨_, rfl⟩
  rw [hB2] at D2 e2
  clear hB2
  go_wp2_with (fail)
  refine (known_yes D2.out nmab hl3.out _ e2.out).mono ?_
  rintro e w7 ⟨rfl, hO⟩
  replace D2 := Lib.hid (D2.out.bel hO)
  replace hb2 := Lib.hid (hb2.out.trans (hO.mono hb2.out.size))
  clear hO e2
  go_wp2_with (fail)
  refine (cm_yes D2.out 5 (by decide) (by decide) hc.out).mono ?_
  rintro e w8 ⟨rfl, D3, hO⟩
  replace hb2 := Lib.hid (hb2.out.trans (hO.below z2 z3.out hb2.out.size))
  replace D3 := Lib.hid D3
  clear hO D2
  go_wp2_with (fail)
  refine (cc_yes D3.out 1 (by decide) hc.out).mono ?_
  rintro e w9 ⟨rfl, D4, hO⟩
  replace hb2 := Lib.hid (hb2.out.trans (hO.below z2 z3.out hb2.out.size))
  replace D4 := Lib.hid D4
  clear hO D3
  go_wp2_with (fail)
  refine (cm_bad D4.out 1 (by decide) 6 (.inl ⟨by decide, rfl⟩)).mono ?_
  rintro e w10 ⟨rfl, n, rfl⟩
  replace D4 := Lib.hid (D4.out.draws n)
  replace hb2 := Lib.hid (below_drawn hb2.out n)
  obtain ⟨w10, hw10⟩ : ∃ w10, w9.drewN n = w10 := ⟨_, rfl⟩
  rw [hw10] at D4 hb2 ⊢
  clear hw10
  go_wp2_with (fail)
  refine (al_yes D4.out hc.out).mono ?_
  rintro e w11 ⟨rfl, D5, hO⟩
  replace hb2 := Lib.hid (hb2.out.trans (hO.below z2 z3.out hb2.out.size))
  replace D5 := Lib.hid D5
  clear hO D4
  go_wp2_with (fail)
  refine (here_any D5.out).mono ?_
  rintro e w12 ⟨rfl, rfl⟩
  rw [show ((upN (16408 + 8 + 1) : Nat) : Int) = 16424 from rfl]
  go_wp2_with (fail)
  go_returns
  exact ⟨rfl, hb2.out⟩
end Go.Proofs.Ytoaiiimnfgbcaaa
