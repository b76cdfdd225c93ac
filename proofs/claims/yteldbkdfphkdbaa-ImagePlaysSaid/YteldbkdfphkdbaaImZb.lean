import Derived.Test.YteldbkdfphkdbaaImZ
namespace Go.Proofs.Yteldbkdfphkdbaa
open Go.RowKit
set_option linter.unusedVariables false
set_option linter.unusedSimpArgs false
/-! the document's Move, SetCell -/
theorem tm_yes {a : Int} (h : a % 8 = 0) : a.tmod 8 = 0 := Int.tmod_eq_zero_of_dvd (Int.dvd_of_emod_eq_zero h)
theorem tm_no {a : Int} (h : ¬ a % 8 = 0) : ¬ a.tmod 8 = 0 := fun g => h (Int.emod_eq_zero_of_dvd (Int.dvd_of_tmod_eq_zero g))
section
variable {w W : World} {p b : Nat} {L : Lay} {B : List UInt8} {o s : Bool} {mode : Int}
theorem rmove_neg (x y n : Int) (hn : n < 0) : Calls Try.prog 53 #[.pointer (some ⟨p, 0, none⟩), .int .i64 mode, .int .i64 x, .int .i64 y, .int .i64 n] w fun e w' => e = .returned (.int .i64 19) ∧ Below w.heap.size w w' := by
  have hT := Lib.hid (rtext_neg (w := w) (p := p) (mode := mode) x n hn)
  go_enter Try.func53, Try.ntmps53
  go_wp2_with (fail)
  refine hT.out.mono ?_
  rintro e w1 ⟨rfl, hb⟩
  go_wp2_with (fail)
  go_returns
  exact ⟨rfl, hb⟩
set_option maxRecDepth 100000 in
set_option maxHeartbeats 2000000 in
theorem rmove_zero (x y : Int) : Calls Try.prog 53 #[.pointer (some ⟨p, 0, none⟩), .int .i64 mode, .int .i64 x, .int .i64 y, .int .i64 0] w fun e w' => e = .returned (.int .i64 0) ∧ Below w.heap.size w w' := by
  have hT := Lib.hid (rtext_zero (w := w) (p := p) (mode := mode) x)
  have hR := Lib.hid (fun W => rrow_zero (p := p) mode y 2 W)
  go_enter Try.func53, Try.ntmps53
  go_wp2_with (fail)
  refine hT.out.mono ?_
  rintro e w1 ⟨rfl, hb⟩
  go_wp2_with (fail)
  refine (hR.out _).mono ?_
  rintro e w2 ⟨rfl, hb2⟩
  replace hb := hb.trans (hb2.mono hb.size)
  go_wp2_with (fail)
  refine wp_loop_rounds 1 ?_
  rw [rounds_succ]
  go_wp2_with (fail)
  go_returns
  exact ⟨rfl, hb⟩
theorem rmove_no (h : RIm w p b L B o s) (x y n : Int) (hn : 0 < n) (hx : -9223372036854775808 ≤ x ∧ x ≤ 9223372036854775807) (hy : -9223372036854775808 ≤ y ∧ y ≤ 9223372036854775807) (hok : ¬ (rowOk L o s mode x n 1 ∧ rowOk L o s mode y n 2)) : Calls Try.prog 53 #[.pointer (some ⟨p, 0, none⟩), .int .i64 mode, .int .i64 x, .int .i64 y, .int .i64 n] w fun e w' => e = .returned (.int .i64 5) ∧ Below w.heap.size w w' := by
  by_cases h1 : rowOk L o s mode x n 1
  · have h2 : ¬ rowOk L o s mode y n 2 := fun g => hok ⟨h1, g⟩
    have hi := reg_in h.ok x h1.1
    obtain ⟨x, rfl⟩ := Int.eq_ofNat_of_zero_le hi.2.2.2
    obtain ⟨n, rfl⟩ := Int.eq_ofNat_of_zero_le (Int.le_of_lt hn)
    have hT := Lib.hid (rtext_yes h x n (by omega) h1)
    have hR := Lib.hid (fun W (h : RIm W p b L B o s) => rrow_no (mode := mode) h y n 2 (by omega) hy (.inr rfl) (.inr h2))
    replace h := Lib.hid h
    clear hok h1 h2 hi
    go_enter Try.func53, Try.ntmps53
    go_wp2_with (fail)
    refine hT.out.mono ?_
    rintro e w1 ⟨rfl, hb⟩
    go_wp2_with (fail)
    refine (hR.out _ (h.out.bel hb)).mono ?_
    rintro e w2 ⟨rfl, hb2⟩
    replace hb := hb.trans (hb2.mono hb.size)
    go_wp2_with (fail)
    go_returns
    exact ⟨rfl, hb⟩
  · have hT := Lib.hid (rtext_no h x n hn hx h1)
    clear h hok h1
    go_enter Try.func53, Try.ntmps53
    go_wp2_with (fail)
    refine hT.out.mono ?_
    rintro e w1 ⟨rfl, hb⟩
    go_wp2_with (fail)
    go_returns
    exact ⟨rfl, hb⟩
set_option maxRecDepth 100000 in
set_option maxHeartbeats 2000000 in
theorem rmove_yes (h : RIm w p b L B o s) (x X n : Nat) (hn : 0 < n) (hx : rowOk L o s mode x n 1) (hok : rowOk L o s mode X n 2) : Calls Try.prog 53 #[.pointer (some ⟨p, 0, none⟩), .int .i64 mode, .int .i64 x, .int .i64 X, .int .i64 n] w fun e w' => e = .returned (.int .i64 0) ∧ RIm w' p b L (splice B X (rowL B x n)) o s ∧ Only b w w' := by
  have hl := row_len h.ok hok
  have hl2 := row_len h.ok hx
  have hT := rtext_yes h x n hn hx
  have hR := Lib.hid (fun W (h : RIm W p b L B o s) => rrow_yes (mode := mode) h X n 2 (by omega) (.inr rfl) hok)
  have m := Lay.mono h.ok
  have hlen := h.len
  have z0 : (0 : Int) ≤ (X : Int) := by omega
  have z1 : (0 : Int) < (n : Int) := by omega
  have z2 : (X : Int) + n ≤ (L.b6 : Int) := by omega
  have z3 : (L.b6 : Int) ≤ 200000 := by omega
  have hrl := rowL_len B x n (by rw [h.len]; omega)
  replace h := Lib.hid h
  clear hok hx m hl hl2
  obtain ⟨T, hTe⟩ : ∃ T : ByteArray, ⟨(rowL B x n).toArray⟩ = T := ⟨_, rfl⟩
  have hTs : T.size = n := by rw [← hTe, size_list]; exact hrl
  obtain ⟨cs, hcseq, hcl, hcs⟩ : ∃ cs, rowL B x n = cs ∧ Hid (cs.length = n) ∧ Hid (∀ j (hj : j < T.size), ∃ hj' : j < cs.length, cs[j] = T[j]) := ⟨_, rfl, Lib.hid hrl, Lib.hid fun j hj => ⟨by rw [hrl, ← hTs]; exact hj, by subst hTe; rfl⟩⟩
  rw [hTe] at hT
  rw [hcseq]
  clear hcseq hTe hrl
  replace hT := Lib.hid hT
  replace hTs := Lib.hid hTs
  go_enter Try.func53, Try.ntmps53
  go_wp2_with (fail)
  refine hT.out.mono ?_
  rintro e w1 ⟨rfl, hb⟩
  go_wp2_with (fail)
  refine (hR.out _ (h.out.bel hb)).mono ?_
  rintro e w2 ⟨rfl, hb2⟩
  replace hb := hb.trans (hb2.mono hb.size)
  have hR0 : Hid (RIm w2 p b L (splice B X (cs.take 0)) o s ∧ Only b w w2) := Lib.hid ⟨by rw [List.take_zero, splice_none]; exact h.out.bel hb, Only.of_below hb b⟩
  clear hb hR hb2
  go_wp2_with (fail)
  go_loopw [14] (fun x wr => ∃ j : Nat, x = .int .i64 j ∧ j ≤ n ∧ Hid (RIm wr p b L (splice B X (cs.take j)) o s ∧ Only b w wr)) (fun x _ => n - (intOf x).toNat)
  case atStart => exact ⟨0, rfl, Nat.zero_le _, hR0⟩
  case round =>
    obtain ⟨j, rfl, hj0, hR⟩ := hrel
    by_cases hj : j < n
    · have ji : (j : Int) < (n : Int) := by omega
      have hjT : j < T.size := by rw [hTs.out]; exact hj
      have ji2 : (j : Int) < (T.size : Int) := by omega
      have hy0 : (X : Int) + j = ((X + j : Nat) : Int) := by omega
      obtain ⟨y, hy⟩ : ∃ y, X + j = y := ⟨_, rfl⟩
      rw [hy] at hy0
      obtain ⟨old, e0⟩ := hR.out.1.old y (by omega)
      have f0 := hR.out.1.by_.free y
      have c5 := hR.out.1.c5
      obtain ⟨cc, hcc⟩ : ∃ cc, cs[j]'(by rw [hcl.out]; exact hj) = cc := ⟨_, rfl⟩
      have y0 : (0 : Int) ≤ (y : Int) := by omega
      have y1 : (y : Int) < (L.b6 : Int) := by omega
      have j0 : (0 : Int) ≤ (j : Int) := by omega
      have hcS : T[j] = cc := by rw [← hcc]; exact ((hcs.out j hjT).2).symm
      have hS2 := Lib.hid (RIm.lay (W := wr.drew) ⟨hR.out.1.draws 1, hR.out.2.draws 1⟩ (by rw [hcl.out]; exact hj) (by rw [hcl.out, hlen]; omega) cc hcc hy)
      have q1 : IntKind.i64.wrap ((X : Int) + j) = (y : Int) := by rw [hy0, IntKind.wrap_i64]; omega
      replace hcc := Lib.hid hcc
      replace hy := Lib.hid hy
      clear hy0 hR0
      go_wp2_with (fail)
      go_still_tail 11, (by kernel_rfl)
      change wpList _ _ _ _ _ wr.drew
      go_wp2_with (fail)
      exact ⟨⟨j + 1, rfl, hj, hS2⟩, by simp [intOf]; omega⟩
    · have ej : j = n := by omega
      subst ej
      go_wp2_with (fail)
      go_returns
      exact ⟨rfl, by have := hR.out.1; rw [List.take_of_length_le (by rw [hcl.out]; exact Nat.le_refl _)] at this; exact this, hR.out.2⟩
theorem rsetcell_align (a v : Int) (h : ¬ a % 8 = 0) (ha : -9223372036854775808 ≤ a ∧ a ≤ 9223372036854775807) : Calls Try.prog 51 #[.pointer (some ⟨p, 0, none⟩), .int .i64 mode, .int .i64 a, .int .i64 v] w fun e w' => e = .returned (.int .i64 6) ∧ Below w.heap.size w w' := by
  have q : (a.tmod 8 != 0) = true := by simpa using tm_no h
  go_enter Try.func51, Try.ntmps51
  go_wp2_with (fail)
  go_returns
  exact ⟨rfl, Below.refl _ _⟩
theorem rcell_align (a : Int) (h : ¬ a % 8 = 0) (ha : -9223372036854775808 ≤ a ∧ a ≤ 9223372036854775807) : Calls Try.prog 50 #[.pointer (some ⟨p, 0, none⟩), .int .i64 mode, .int .i64 a] w fun e w' => e = .returned (.tuple #[.int .i64 0, .int .i64 6]) ∧ Below w.heap.size w w' := by
  have q : (a.tmod 8 != 0) = true := by simpa using tm_no h
  go_enter Try.func50, Try.ntmps50
  go_wp2_with (fail)
  go_returns
  exact ⟨rfl, Below.refl _ _⟩
theorem rcell_no (h : RIm w p b L B o s) (a : Int) (ha : -9223372036854775808 ≤ a ∧ a ≤ 9223372036854775807) (h8 : a % 8 = 0) (hok : ¬ rowOk L o s mode a 8 1) : Calls Try.prog 50 #[.pointer (some ⟨p, 0, none⟩), .int .i64 mode, .int .i64 a] w fun e w' => e = .returned (.tuple #[.int .i64 0, .int .i64 5]) ∧ Below w.heap.size w w' := by
  have q : (a.tmod 8 != 0) = false := by simpa using tm_yes h8
  have hR := Lib.hid (rrow_no h a 8 1 (by decide) ha (.inl rfl) (.inr hok))
  clear h hok h8
  go_enter Try.func50, Try.ntmps50
  go_wp2_with (fail)
  refine hR.out.mono ?_
  rintro e w1 ⟨rfl, hb⟩
  go_wp2_with (fail)
  go_returns
  exact ⟨rfl, hb⟩
theorem rsetcell_no (h : RIm w p b L B o s) (a v : Int) (ha : -9223372036854775808 ≤ a ∧ a ≤ 9223372036854775807) (h8 : a % 8 = 0) (hok : ¬ rowOk L o s mode a 8 2) : Calls Try.prog 51 #[.pointer (some ⟨p, 0, none⟩), .int .i64 mode, .int .i64 a, .int .i64 v] w fun e w' => e = .returned (.int .i64 5) ∧ Below w.heap.size w w' := by
  have q : (a.tmod 8 != 0) = false := by simpa using tm_yes h8
  have hR := Lib.hid (rrow_no h a 8 2 (by decide) ha (.inr rfl) (.inr hok))
  clear h hok h8
  go_enter Try.func51, Try.ntmps51
  go_wp2_with (fail)
  refine hR.out.mono ?_
  rintro e w1 ⟨rfl, hb⟩
  go_wp2_with (fail)
  go_returns
  exact ⟨rfl, hb⟩
end
end Go.Proofs.Yteldbkdfphkdbaa
