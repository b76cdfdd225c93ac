import Derived.Test.YtoaiiimnfgbcaaaDcK
namespace Go.Proofs.Ytoaiiimnfgbcaaa
open Go.RowKit
set_option linter.unusedVariables false
set_option linter.unusedSimpArgs false
/-! DictBegins -/
theorem find_nil (B : List UInt8) (f y : Nat) (hf : 0 < f) (nm : ByteArray) : findP (walkP B f y 0) nm = none := by rw [walk_nil _ _ _ hf]; rfl
set_option maxHeartbeats 4000000 in
set_option maxRecDepth 100000 in
theorem walk_begins (n g : Int) (w : World) (hnI : inI n) (hg : inI g) :
    Calls Try.prog 3 #[.int .i64 n, .int .i64 g] w fun e w' => e = .returned (.bool true) ∧ Below w.heap.size w w' := by
  have hlay := fun w1 => layout8_any n w1 hnI
  have hnew := fun w1 => new8 n w1
  have hok := layOf8_ok n
  clear hg hnI
  obtain ⟨L, hL⟩ : ∃ L, layOf8 n = L := ⟨_, rfl⟩
  simp only [hL] at hlay hnew hok
  clear hL
  unfold LV layV at hlay hnew
  have b3 : L.beg 3 = L.k + L.s := rfl
  have b1 : L.beg 1 = 0 := rfl
  have hw1 : wrap64 ((L.k : Int) + (L.s : Int)) = ((L.k + L.s : Nat) : Int) := by unfold wrap64; unfold Lay.ok at hok; omega
  have hw2 : wrap64 (((L.k + L.s : Nat) : Int) + 8) = ((L.k + L.s + 8 : Nat) : Int) := by unfold wrap64; unfold Lay.ok at hok; omega
  obtain ⟨m, hm⟩ : ∃ m, L.k + L.s = m := ⟨_, rfl⟩
  obtain ⟨m8, hm8⟩ : ∃ m8, m + 8 = m8 := ⟨_, rfl⟩
  rw [hm] at b3 hw1 hw2
  rw [hm8] at hw2
  replace hw1 := Lib.hid hw1
  replace hw2 := Lib.hid hw2
  replace hm := Lib.hid hm
  have hf8 : Hid (0 < m8) := Lib.hid (by omega)
  replace hm8 := Lib.hid hm8
  replace hlay := Lib.hid hlay
  replace hnew := Lib.hid hnew
  replace hok := Lib.hid hok
  go_enter Try.func3, Try.ntmps3
  go_wp2_with (fail)
  refine (shown_any _).mono ?_
  rintro e w1 ⟨rfl, hB⟩
  replace hB := Lib.hid hB
  go_wp2_with (fail)
  refine (hlay.out _).mono ?_
  rintro e w2 ⟨rfl, hO⟩
  replace hB := Lib.hid (hB.out.trans (hO.mono hB.out.size))
  clear hO
  go_wp2_with (fail)
  refine (hnew.out _).mono ?_
  rintro e w3 ⟨p, b, rfl, hI, z1, z2, hO⟩
  have hR := Bk.fresh w2 24 #[.int .i64 (L.k : Int), .int .i64 (L.s : Int), .int .i64 (L.u : Int), .int .i64 (L.d : Int), .int .i64 (L.r : Int)]
  have hO1 : Below w2.heap.size w2 (w2.alloc (.cells #[.int .i64 (L.k : Int), .int .i64 (L.s : Int), .int .i64 (L.u : Int), .int .i64 (L.d : Int), .int .i64 (L.r : Int)] 24)) := (Below.refl _ _).alloc (Nat.le_refl _) _
  have hR := hR.kept hO hR.lt
  have hB1 := hB.out.trans (hO1.mono hB.out.size)
  have z1 : w.heap.size ≤ p := Nat.le_trans hB1.size z1
  have z2 : w.heap.size ≤ b := Nat.le_trans hB1.size z2
  have hB3 := hB1.trans (hO.mono hB1.size)
  obtain ⟨q, hq⟩ : ∃ q, w2.heap.size = q := ⟨_, rfl⟩
  rw [hq] at hR ⊢
  clear hO hO1 hB1 hB hq
  obtain ⟨B, hBB⟩ : ∃ B, List.replicate L.b6 (0 : UInt8) = B := ⟨_, rfl⟩
  rw [hBB] at hI
  clear hBB
  replace hB := Lib.hid hB3
  replace hI := Lib.hid hI
  clear hB3
  have hxa : (⟨#[97]⟩ : ByteArray).size ≤ maxLen := by decide
  replace hxa := Lib.hid hxa
  by_cases g1 : g = 1
  · subst g1
    go_wp2_with (fail)
    refine (dnew_any hI.out 1 (.inl rfl)).mono ?_
    rintro e w4 ⟨d, hd, rfl, D, hO⟩
    rw [b1] at D
    have D : Dc w4 d p b L 1 8 (L.beg (1 + 1)) B false false 8 0 := D
    have hf : 0 < 8 := by decide
    have hR4 := hR.kept hO hR.lt
    have c0 := hR4.cell 0
    have c1 := hR4.cell 1
    simp at c0 c1
    replace hB := Lib.hid (hB.out.trans (hO.mono hB.out.size))
    replace D := Lib.hid D
    replace hf := Lib.hid hf
    clear hI hO hR hR4 hd hok b1 b3
    go_wp2_with (fail)
    have k2 := find_any D.out ⟨#[97]⟩ hxa.out
    rw [find_nil _ _ _ hf.out] at k2
    refine k2.mono ?_
    rintro e w5 ⟨rfl, hO⟩
    replace D := Lib.hid (D.out.bel hO)
    replace hB := Lib.hid (hB.out.trans (hO.mono hB.out.size))
    clear k2 hO
    simp only [Option.getD_none, Option.isSome_none, wdV, wd0]
    go_wp2_with (fail)
    have D6 := (D.out.bel ((Below.refl _ _).alloc (Nat.le_refl _) (.cells #[.string ⟨#[]⟩, .int .i64 0, .int .i64 0, .bool false, .bool false, .bool false] 34)))
    refine (here_any D6).mono ?_
    rintro e w6 ⟨rfl, rfl⟩
    go_wp2_with (fail)
    refine (latest_any D6).mono ?_
    rintro e w6 ⟨rfl, rfl⟩
    go_wp2_with (fail)
    go_returns
    exact ⟨rfl, hB.out.alloc hB.out.size _⟩
  by_cases g3 : g = 3
  · subst g3
    clear g1
    go_wp2_with (fail)
    refine (dnew_any hI.out 3 (.inr rfl)).mono ?_
    rintro e w4 ⟨d, hd, rfl, D, hO⟩
    rw [b3, hm8.out] at D
    have hf := hf8.out
    have hw1 := hw1.out
    have hw2 := hw2.out
    have hR4 := hR.kept hO hR.lt
    have c0 := hR4.cell 0
    have c1 := hR4.cell 1
    simp at c0 c1
    replace hB := Lib.hid (hB.out.trans (hO.mono hB.out.size))
    replace D := Lib.hid D
    replace hf := Lib.hid hf
    clear hI hO hR hR4 hd hok b1 b3
    go_wp2_with (fail)
    have k2 := find_any D.out ⟨#[97]⟩ hxa.out
    rw [find_nil _ _ _ hf.out] at k2
    refine k2.mono ?_
    rintro e w5 ⟨rfl, hO⟩
    replace D := Lib.hid (D.out.bel hO)
    replace hB := Lib.hid (hB.out.trans (hO.mono hB.out.size))
    clear k2 hO
    simp only [Option.getD_none, Option.isSome_none, wdV, wd0]
    go_wp2_with (fail)
    have D6 := (D.out.bel ((Below.refl _ _).alloc (Nat.le_refl _) (.cells #[.string ⟨#[]⟩, .int .i64 0, .int .i64 0, .bool false, .bool false, .bool false] 34)))
    refine (here_any D6).mono ?_
    rintro e w6 ⟨rfl, rfl⟩
    go_wp2_with (fail)
    refine (latest_any D6).mono ?_
    rintro e w6 ⟨rfl, rfl⟩
    go_wp2_with (fail)
    go_returns
    exact ⟨rfl, hB.out.alloc hB.out.size _⟩
  have hbad := fun w1 => dnew_bad g (.pointer (some ⟨p, 0, none⟩)) (w := w1) ⟨g1, g3⟩
  replace hbad := Lib.hid hbad
  have t1 : (g == 1) = false := by simpa using g1
  have t3 : (g == 3) = false := by simpa using g3
  clear g1 g3
  go_wp2_with (fail)
  refine (hbad.out _).mono ?_
  rintro e w4 ⟨rfl, rfl⟩
  go_wp2_with (fail)
  go_returns
  exact ⟨rfl, hB.out⟩
end Go.Proofs.Ytoaiiimnfgbcaaa
