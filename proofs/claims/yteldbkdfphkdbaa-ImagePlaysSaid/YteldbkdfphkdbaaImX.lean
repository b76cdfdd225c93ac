import Derived.Test.YteldbkdfphkdbaaImR
import Derived.Test.YteldbkdfphkdbaaImI
import Derived.Test.YteldbkdfphkdbaaCel8R
namespace Go.Proofs.Yteldbkdfphkdbaa
open Go.RowKit
set_option linter.unusedVariables false
set_option linter.unusedSimpArgs false
/-! the document's Row, Byte, SetByte, Open, Seal, Part, Text -/
section
variable {w : World} {p b : Nat} {L : Lay} {B : List UInt8} {o s : Bool} {mode : Int}
theorem rrow_zero (mode a right : Int) (w : World) : Calls Try.prog 59 #[.pointer (some ⟨p, 0, none⟩), .int .i64 mode, .int .i64 a, .int .i64 0, .int .i64 right] w fun e w' => e = .returned (.bool true) ∧ Below w.heap.size w w' := by
  go_enter Try.func59, Try.ntmps59
  go_wp2_with (fail)
  go_returns
  exact ⟨rfl, Below.refl _ _⟩
set_option maxHeartbeats 4000000 in
set_option maxRecDepth 100000 in
theorem rrow_any (h : RIm w p b L B o s) (a n right : Int) (hn : n ≠ 0) (ha : -9223372036854775808 ≤ a ∧ a ≤ 9223372036854775807) (hr : right = 1 ∨ right = 2) :
    Calls Try.prog 59 #[.pointer (some ⟨p, 0, none⟩), .int .i64 mode, .int .i64 a, .int .i64 n, .int .i64 right] w fun e w' => e = .returned (.bool (decide (0 < n ∧ rowOk L o s mode a n right))) ∧ Below w.heap.size w w' := by
  have q0 : (n == 0) = false := by simpa using hn
  have hR := rregion_any h a
  have hS := fun W (h : RIm W p b L B o s) => rspan_any h (L.reg a : Int)
  have hM := fun W (h : RIm W p b L B o s) => rmay_any h mode (L.reg a : Int)
  have hxa := may_are o s mode (L.reg a : Int)
  have hto : L.reg a ≠ 0 → L.to_ (L.reg a : Int) = L.beg (L.reg a + 1) := fun h0 => (from_of L (L.reg a) (by omega) (reg_le L a)).2
  have hin := reg_in h.ok a
  have hb6 := (Lay.mono h.ok)
  obtain ⟨res, hd, hres⟩ : ∃ res : Bool, decide (0 < n ∧ rowOk L o s mode a n right) = res ∧ (res = true ↔ (0 < n ∧ rowOk L o s mode a n right)) := ⟨_, rfl, decide_eq_true_iff⟩
  rw [hd]
  clear hd
  unfold rowOk at hres
  have hh := Lib.hid h
  clear h
  obtain ⟨k, hk⟩ : ∃ k, L.reg a = k := ⟨_, rfl⟩
  rw [hk] at hR hS hM hxa hto hin hres
  clear hk
  obtain ⟨f, hf⟩ : ∃ f, L.from_ (k : Int) = f := ⟨_, rfl⟩
  obtain ⟨y, hy⟩ : ∃ y, L.to_ (k : Int) = y := ⟨_, rfl⟩
  obtain ⟨x, hx⟩ : ∃ x, mayN o s mode (k : Int) = x := ⟨_, rfl⟩
  rw [hx] at hM hxa hres
  rw [hf, hy] at hS
  rw [hy] at hto
  clear hf hx
  replace hR := Lib.hid hR
  replace hS := Lib.hid hS
  by_cases hn0 : 0 < n
  · by_cases hk0 : k = 0
    · subst hk0
      have hre : res = false := by cases hv : res with | false => rfl | true => exact absurd (hres.1 hv) (by omega)
      subst hre
      clear hres
      replace hM := Lib.hid hM
      clear hto hin hxa hb6
      go_enter Try.func59, Try.ntmps59
      go_wp2_with (fail)
      refine hR.out.mono ?_
      rintro e w1 ⟨rfl, b1⟩
      replace hh := Lib.hid (hh.out.bel b1)
      go_wp2_with (fail)
      refine (hS.out _ hh.out).mono ?_
      rintro e w2 ⟨rfl, b2⟩
      replace hh := Lib.hid (hh.out.bel b2)
      replace b2 := b1.trans (b2.mono b1.size)
      clear b1
      go_wp2_with (fail)
      refine (hM.out _ hh.out).mono ?_
      rintro e w3 ⟨rfl, hw_⟩
      have hw_ := hw_.symm
      subst hw_
      go_wp2_with (fail)
      go_returns
      exact ⟨rfl, b2⟩
    · have hk1 : (0 : Int) < (k : Int) := by omega
      have hto := hto hk0
      obtain ⟨r1, r2, r3, r4⟩ := hin hk0
      rw [← hto] at hres r2 r3
      have y0 : (y : Int) ≤ 200000 := by omega
      clear hin hto r1 r3 hb6
      by_cases ht : n ≤ (y : Int) - a
      · rcases hxa with rfl | rfl | rfl <;> rcases hr with rfl | rfl
        · skip
          have hre : res = false := by cases hv : res with | false => rfl | true => exact absurd (hres.1 hv) (by omega)
          subst hre
          clear hres
          have b1 : bits .and .i64 0 1 = 0 := by decide +kernel
          have b2 : bits .and .i64 0 2 = 0 := by decide +kernel
          have b3 : bits .and .i64 1 1 = 1 := by decide +kernel
          have b4 : bits .and .i64 1 2 = 0 := by decide +kernel
          have b5 : bits .and .i64 3 1 = 1 := by decide +kernel
          have b6 : bits .and .i64 3 2 = 2 := by decide +kernel
          simp only [Int.natCast_zero, Int.natCast_one, show ((3 : Nat) : Int) = 3 from rfl] at hM
          replace hM := Lib.hid hM
          go_enter Try.func59, Try.ntmps59
          go_wp2_with (fail)
          refine hR.out.mono ?_
          rintro e w1 ⟨rfl, b1⟩
          replace hh := Lib.hid (hh.out.bel b1)
          go_wp2_with (fail)
          refine (hS.out _ hh.out).mono ?_
          rintro e w2 ⟨rfl, b2⟩
          replace hh := Lib.hid (hh.out.bel b2)
          replace b2 := b1.trans (b2.mono b1.size)
          clear b1
          go_wp2_with (fail)
          refine (hM.out _ hh.out).mono ?_
          rintro e w3 ⟨rfl, hw_⟩
          have hw_ := hw_.symm
          subst hw_
          go_wp2_with (fail)
          go_returns
          exact ⟨rfl, b2⟩
        · skip
          have hre : res = false := by cases hv : res with | false => rfl | true => exact absurd (hres.1 hv) (by omega)
          subst hre
          clear hres
          have b1 : bits .and .i64 0 1 = 0 := by decide +kernel
          have b2 : bits .and .i64 0 2 = 0 := by decide +kernel
          have b3 : bits .and .i64 1 1 = 1 := by decide +kernel
          have b4 : bits .and .i64 1 2 = 0 := by decide +kernel
          have b5 : bits .and .i64 3 1 = 1 := by decide +kernel
          have b6 : bits .and .i64 3 2 = 2 := by decide +kernel
          simp only [Int.natCast_zero, Int.natCast_one, show ((3 : Nat) : Int) = 3 from rfl] at hM
          replace hM := Lib.hid hM
          go_enter Try.func59, Try.ntmps59
          go_wp2_with (fail)
          refine hR.out.mono ?_
          rintro e w1 ⟨rfl, b1⟩
          replace hh := Lib.hid (hh.out.bel b1)
          go_wp2_with (fail)
          refine (hS.out _ hh.out).mono ?_
          rintro e w2 ⟨rfl, b2⟩
          replace hh := Lib.hid (hh.out.bel b2)
          replace b2 := b1.trans (b2.mono b1.size)
          clear b1
          go_wp2_with (fail)
          refine (hM.out _ hh.out).mono ?_
          rintro e w3 ⟨rfl, hw_⟩
          have hw_ := hw_.symm
          subst hw_
          go_wp2_with (fail)
          go_returns
          exact ⟨rfl, b2⟩
        · skip
          have hre : res = true := hres.2 (by omega)
          subst hre
          clear hres
          have b1 : bits .and .i64 0 1 = 0 := by decide +kernel
          have b2 : bits .and .i64 0 2 = 0 := by decide +kernel
          have b3 : bits .and .i64 1 1 = 1 := by decide +kernel
          have b4 : bits .and .i64 1 2 = 0 := by decide +kernel
          have b5 : bits .and .i64 3 1 = 1 := by decide +kernel
          have b6 : bits .and .i64 3 2 = 2 := by decide +kernel
          simp only [Int.natCast_zero, Int.natCast_one, show ((3 : Nat) : Int) = 3 from rfl] at hM
          replace hM := Lib.hid hM
          go_enter Try.func59, Try.ntmps59
          go_wp2_with (fail)
          refine hR.out.mono ?_
          rintro e w1 ⟨rfl, b1⟩
          replace hh := Lib.hid (hh.out.bel b1)
          go_wp2_with (fail)
          refine (hS.out _ hh.out).mono ?_
          rintro e w2 ⟨rfl, b2⟩
          replace hh := Lib.hid (hh.out.bel b2)
          replace b2 := b1.trans (b2.mono b1.size)
          clear b1
          go_wp2_with (fail)
          refine (hM.out _ hh.out).mono ?_
          rintro e w3 ⟨rfl, hw_⟩
          have hw_ := hw_.symm
          subst hw_
          go_wp2_with (fail)
          go_returns
          exact ⟨rfl, b2⟩
        · skip
          have hre : res = false := by cases hv : res with | false => rfl | true => exact absurd (hres.1 hv) (by omega)
          subst hre
          clear hres
          have b1 : bits .and .i64 0 1 = 0 := by decide +kernel
          have b2 : bits .and .i64 0 2 = 0 := by decide +kernel
          have b3 : bits .and .i64 1 1 = 1 := by decide +kernel
          have b4 : bits .and .i64 1 2 = 0 := by decide +kernel
          have b5 : bits .and .i64 3 1 = 1 := by decide +kernel
          have b6 : bits .and .i64 3 2 = 2 := by decide +kernel
          simp only [Int.natCast_zero, Int.natCast_one, show ((3 : Nat) : Int) = 3 from rfl] at hM
          replace hM := Lib.hid hM
          go_enter Try.func59, Try.ntmps59
          go_wp2_with (fail)
          refine hR.out.mono ?_
          rintro e w1 ⟨rfl, b1⟩
          replace hh := Lib.hid (hh.out.bel b1)
          go_wp2_with (fail)
          refine (hS.out _ hh.out).mono ?_
          rintro e w2 ⟨rfl, b2⟩
          replace hh := Lib.hid (hh.out.bel b2)
          replace b2 := b1.trans (b2.mono b1.size)
          clear b1
          go_wp2_with (fail)
          refine (hM.out _ hh.out).mono ?_
          rintro e w3 ⟨rfl, hw_⟩
          have hw_ := hw_.symm
          subst hw_
          go_wp2_with (fail)
          go_returns
          exact ⟨rfl, b2⟩
        · skip
          have hre : res = true := hres.2 (by omega)
          subst hre
          clear hres
          have b1 : bits .and .i64 0 1 = 0 := by decide +kernel
          have b2 : bits .and .i64 0 2 = 0 := by decide +kernel
          have b3 : bits .and .i64 1 1 = 1 := by decide +kernel
          have b4 : bits .and .i64 1 2 = 0 := by decide +kernel
          have b5 : bits .and .i64 3 1 = 1 := by decide +kernel
          have b6 : bits .and .i64 3 2 = 2 := by decide +kernel
          simp only [Int.natCast_zero, Int.natCast_one, show ((3 : Nat) : Int) = 3 from rfl] at hM
          replace hM := Lib.hid hM
          go_enter Try.func59, Try.ntmps59
          go_wp2_with (fail)
          refine hR.out.mono ?_
          rintro e w1 ⟨rfl, b1⟩
          replace hh := Lib.hid (hh.out.bel b1)
          go_wp2_with (fail)
          refine (hS.out _ hh.out).mono ?_
          rintro e w2 ⟨rfl, b2⟩
          replace hh := Lib.hid (hh.out.bel b2)
          replace b2 := b1.trans (b2.mono b1.size)
          clear b1
          go_wp2_with (fail)
          refine (hM.out _ hh.out).mono ?_
          rintro e w3 ⟨rfl, hw_⟩
          have hw_ := hw_.symm
          subst hw_
          go_wp2_with (fail)
          go_returns
          exact ⟨rfl, b2⟩
        · skip
          have hre : res = true := hres.2 (by omega)
          subst hre
          clear hres
          have b1 : bits .and .i64 0 1 = 0 := by decide +kernel
          have b2 : bits .and .i64 0 2 = 0 := by decide +kernel
          have b3 : bits .and .i64 1 1 = 1 := by decide +kernel
          have b4 : bits .and .i64 1 2 = 0 := by decide +kernel
          have b5 : bits .and .i64 3 1 = 1 := by decide +kernel
          have b6 : bits .and .i64 3 2 = 2 := by decide +kernel
          simp only [Int.natCast_zero, Int.natCast_one, show ((3 : Nat) : Int) = 3 from rfl] at hM
          replace hM := Lib.hid hM
          go_enter Try.func59, Try.ntmps59
          go_wp2_with (fail)
          refine hR.out.mono ?_
          rintro e w1 ⟨rfl, b1⟩
          replace hh := Lib.hid (hh.out.bel b1)
          go_wp2_with (fail)
          refine (hS.out _ hh.out).mono ?_
          rintro e w2 ⟨rfl, b2⟩
          replace hh := Lib.hid (hh.out.bel b2)
          replace b2 := b1.trans (b2.mono b1.size)
          clear b1
          go_wp2_with (fail)
          refine (hM.out _ hh.out).mono ?_
          rintro e w3 ⟨rfl, hw_⟩
          have hw_ := hw_.symm
          subst hw_
          go_wp2_with (fail)
          go_returns
          exact ⟨rfl, b2⟩
      · have hre : res = false := by cases hv : res with | false => rfl | true => exact absurd (hres.1 hv) (by omega)
        subst hre
        clear hres
        replace hM := Lib.hid hM
        clear hxa
        go_enter Try.func59, Try.ntmps59
        go_wp2_with (fail)
        refine hR.out.mono ?_
        rintro e w1 ⟨rfl, b1⟩
        replace hh := Lib.hid (hh.out.bel b1)
        go_wp2_with (fail)
        refine (hS.out _ hh.out).mono ?_
        rintro e w2 ⟨rfl, b2⟩
        replace hh := Lib.hid (hh.out.bel b2)
        replace b2 := b1.trans (b2.mono b1.size)
        clear b1
        go_wp2_with (fail)
        refine (hM.out _ hh.out).mono ?_
        rintro e w3 ⟨rfl, hw_⟩
        have hw_ := hw_.symm
        subst hw_
        go_wp2_with (fail)
        go_returns
        exact ⟨rfl, b2⟩
  · have hre : res = false := by cases hv : res with | false => rfl | true => exact absurd (hres.1 hv) (by omega)
    subst hre
    clear hres
    replace hM := Lib.hid hM
    clear hto hin hxa hb6
    go_enter Try.func59, Try.ntmps59
    go_wp2_with (fail)
    refine hR.out.mono ?_
    rintro e w1 ⟨rfl, b1⟩
    replace hh := Lib.hid (hh.out.bel b1)
    go_wp2_with (fail)
    refine (hS.out _ hh.out).mono ?_
    rintro e w2 ⟨rfl, b2⟩
    replace hh := Lib.hid (hh.out.bel b2)
    replace b2 := b1.trans (b2.mono b1.size)
    clear b1
    go_wp2_with (fail)
    refine (hM.out _ hh.out).mono ?_
    rintro e w3 ⟨rfl, hw_⟩
    have hw_ := hw_.symm
    subst hw_
    go_wp2_with (fail)
    go_returns
    exact ⟨rfl, b2⟩
end
end Go.Proofs.Yteldbkdfphkdbaa
