import Derived.Test.YteldbkdfphkdbaaImY
namespace Go.Proofs.Yteldbkdfphkdbaa
open Go.RowKit
set_option linter.unusedVariables false
set_option linter.unusedSimpArgs false
/-! the document's Put, Move, Fill, SetCell, Cell, Load -/
theorem ext_getD {l m : List UInt8} (hl : l.length = m.length) (h : ∀ i, i < l.length → l.getD i 0 = m.getD i 0) : l = m := by
  apply List.ext_getElem hl
  intro i h1 h2
  have := h i h1
  rw [List.getD_eq_getElem?_getD, List.getD_eq_getElem?_getD, List.getElem?_eq_getElem h1, List.getElem?_eq_getElem h2] at this
  exact this
theorem splice_none (B : List UInt8) (x : Nat) : splice B x [] = B := by simp [splice]
theorem splice_step (B cs : List UInt8) (x j : Nat) (hj : j < cs.length) (hf : x + cs.length ≤ B.length) : (splice B x (cs.take j)).set (x + j) cs[j] = splice B x (cs.take (j + 1)) := by
  have l1 : (cs.take j).length = j := by simp; omega
  have l2 : (cs.take (j + 1)).length = j + 1 := by simp; omega
  have e1 := splice_len B x (cs.take j) (by omega)
  have e2 := splice_len B x (cs.take (j + 1)) (by omega)
  apply ext_getD (by rw [List.length_set, e1, e2])
  intro i hi
  rw [List.length_set, e1] at hi
  rw [List.getD_eq_getElem?_getD, List.getElem?_set]
  have tk : ∀ k n, k < n → k < cs.length → (cs.take n).getD k 0 = cs.getD k 0 := fun k n hk hc => by
    rw [List.getD_eq_getElem?_getD, List.getD_eq_getElem?_getD, List.getElem?_take_of_lt hk]
  by_cases h0 : x + j = i
  · subst h0
    rw [if_pos rfl, if_pos (by rw [e1]; omega), getD_in B _ x _ (by omega) (by omega) (by omega), Nat.add_sub_cancel_left, tk j (j + 1) (by omega) hj, List.getD_eq_getElem?_getD, List.getElem?_eq_getElem hj]
  · rw [if_neg h0, ← List.getD_eq_getElem?_getD]
    by_cases h1 : x ≤ i ∧ i < x + j
    · rw [getD_in B _ x i (by omega) h1.1 (by omega), getD_in B _ x i (by omega) h1.1 (by omega), tk _ _ (by omega) (by omega), tk _ _ (by omega) (by omega)]
    · rw [getD_out B _ x i (by omega) (by omega), getD_out B _ x i (by omega) (by omega)]
section
variable {w W : World} {p b : Nat} {L : Lay} {B : List UInt8} {o s : Bool} {mode : Int}
/-- one more byte laid down -/
theorem RIm.lay {cs : List UInt8} {x j y : Nat} (h : RIm W p b L (splice B x (cs.take j)) o s ∧ Only b w W) (hj : j < cs.length) (hf : x + cs.length ≤ B.length) (c : UInt8) (hc : cs[j] = c) (hy : x + j = y) : RIm (W.setCell ⟨b, y, none⟩ (.int .u8 (c.toNat : Int))) p b L (splice B x (cs.take (j + 1))) o s ∧ Only b w (W.setCell ⟨b, y, none⟩ (.int .u8 (c.toNat : Int))) := by
  subst hc
  subst hy
  refine ⟨?_, h.2.put _ _⟩
  have := h.1.put (x + j) cs[j]
  rw [splice_step B cs x j hj hf] at this
  exact this
theorem RIm.old (h : RIm W p b L B o s) (y : Nat) (hy : y < L.b6) : ∃ v, W.cell? ⟨b, y, none⟩ = some v := ⟨_, h.byte y (by rw [h.len]; exact hy)⟩
theorem rput_arg (r : Int) (S : ByteArray) (hr : r < 1 ∨ 5 < r) : Calls Try.prog 65 #[.pointer (some ⟨p, 0, none⟩), .int .i64 r, .string S] w fun e w' => e = .returned (.int .i64 1) ∧ Below w.heap.size w w' := by
  rcases hr with hr | hr
  · go_enter Try.func65, Try.ntmps65
    go_wp2_with (fail)
    go_returns
    exact ⟨rfl, Below.refl _ _⟩
  · have h1 : ¬ r < 1 := by omega
    go_enter Try.func65, Try.ntmps65
    go_wp2_with (fail)
    go_returns
    exact ⟨rfl, Below.refl _ _⟩
theorem rput_sealed (h : RIm w p b L B o true) (S : ByteArray) : Calls Try.prog 65 #[.pointer (some ⟨p, 0, none⟩), .int .i64 1, .string S] w fun e w' => e = .returned (.int .i64 5) ∧ Below w.heap.size w w' := by
  have c7 := h.c7
  clear h
  go_enter Try.func65, Try.ntmps65
  go_wp2_with (fail)
  go_returns
  exact ⟨rfl, Below.refl _ _⟩
set_option maxRecDepth 100000 in
set_option maxHeartbeats 2000000 in
theorem rput_form (h : RIm w p b L B o s) (r : Int) (S : ByteArray) (h1 : 1 ≤ r) (h5 : r ≤ 5) (hs : ¬ (r = 1 ∧ s = true)) (hl : S.size ≠ L.to_ r - L.from_ r) : Calls Try.prog 65 #[.pointer (some ⟨p, 0, none⟩), .int .i64 r, .string S] w fun e w' => e = .returned (.int .i64 4) ∧ Below w.heap.size w w' := by
  have c7 := h.c7
  have hle := Lay.from_le h.ok r
  have m := Lay.mono h.ok
  have hS := rspan_any h r
  have hb6 : L.b6 ≤ 200000 := by omega
  clear m
  have hlen := h.len
  replace h := Lib.hid h
  generalize L.from_ r = X at *
  generalize L.to_ r = Y at *
  have g1 : ¬ r < 1 := by omega
  have g2 : ¬ 5 < r := by omega
  have x0 : (0 : Int) ≤ (X : Int) := by omega
  have x1 : (X : Int) ≤ (Y : Int) := by omega
  have x2 : (Y : Int) ≤ (L.b6 : Int) := by omega
  have x3 : (L.b6 : Int) ≤ 200000 := by omega
  replace hS := Lib.hid hS
  have q : ((S.size : Int) != (Y : Int) - X) = true := by simp; omega
  by_cases hr : r = 1
  · have g3 : (r == 1) = true := by simpa using hr
    have hsf : s = false := by cases s; rfl; exact absurd ⟨hr, rfl⟩ hs
    rw [hsf] at c7
    replace hsf := Lib.hid hsf
    replace hr := Lib.hid hr
    clear hs
    go_enter Try.func65, Try.ntmps65
    go_wp2_with (fail)
    refine hS.out.mono ?_
    rintro e w1 ⟨rfl, hb⟩
    go_wp2_with (fail)
    go_returns
    exact ⟨rfl, hb⟩
  · have g3 : (r == 1) = false := by simpa using hr
    go_enter Try.func65, Try.ntmps65
    go_wp2_with (fail)
    refine hS.out.mono ?_
    rintro e w1 ⟨rfl, hb⟩
    go_wp2_with (fail)
    go_returns
    exact ⟨rfl, hb⟩
set_option maxRecDepth 100000 in
set_option maxHeartbeats 2000000 in
theorem rput_yes (h : RIm w p b L B o s) (r : Int) (S : ByteArray) (h1 : 1 ≤ r) (h5 : r ≤ 5) (hs : ¬ (r = 1 ∧ s = true)) (hl : S.size = L.to_ r - L.from_ r) : Calls Try.prog 65 #[.pointer (some ⟨p, 0, none⟩), .int .i64 r, .string S] w fun e w' => e = .returned (.int .i64 0) ∧ RIm w' p b L (splice B (L.from_ r) S.data.toList) o s ∧ Only b w w' := by
  have c7 := h.c7
  have hle := Lay.from_le h.ok r
  have m := Lay.mono h.ok
  have hS := rspan_any h r
  have hb6 : L.b6 ≤ 200000 := by omega
  clear m
  have hlen := h.len
  replace h := Lib.hid h
  generalize L.from_ r = X at *
  generalize L.to_ r = Y at *
  have g1 : ¬ r < 1 := by omega
  have g2 : ¬ 5 < r := by omega
  have x0 : (0 : Int) ≤ (X : Int) := by omega
  have x1 : (X : Int) ≤ (Y : Int) := by omega
  have x2 : (Y : Int) ≤ (L.b6 : Int) := by omega
  have x3 : (L.b6 : Int) ≤ 200000 := by omega
  replace hS := Lib.hid hS
  have q : ((S.size : Int) != (Y : Int) - X) = false := by simp; omega
  have x5 : (X : Int) + S.size ≤ (L.b6 : Int) := by omega
  replace hl := Lib.hid hl
  obtain ⟨cs, hcseq, hcl, hcs⟩ : ∃ cs, S.data.toList = cs ∧ Hid (cs.length = S.size) ∧ Hid (∀ j (hj : j < S.size), ∃ hj' : j < cs.length, cs[j] = S[j]) := ⟨_, rfl, Lib.hid (data_size S), Lib.hid fun j hj => ⟨by rw [data_size]; exact hj, rfl⟩⟩
  rw [hcseq]
  clear hcseq
  by_cases hr : r = 1
  · have g3 : (r == 1) = true := by simpa using hr
    have hsf : s = false := by cases s; rfl; exact absurd ⟨hr, rfl⟩ hs
    rw [hsf] at c7
    replace hsf := Lib.hid hsf
    replace hr := Lib.hid hr
    clear hs
    go_enter Try.func65, Try.ntmps65
    go_wp2_with (fail)
    refine hS.out.mono ?_
    rintro e w1 ⟨rfl, hb⟩
    have hR0 : Hid (RIm w1 p b L (splice B X (cs.take 0)) o s ∧ Only b w w1) := Lib.hid ⟨by rw [List.take_zero, splice_none]; exact h.out.bel hb, Only.of_below hb b⟩
    clear hb
    go_wp2_with (fail)
    go_loopw [9] (fun x wr => ∃ j : Nat, x = .int .i64 j ∧ j ≤ S.size ∧ Hid (RIm wr p b L (splice B X (cs.take j)) o s ∧ Only b w wr)) (fun x _ => S.size - (intOf x).toNat)
    case atStart => exact ⟨0, rfl, Nat.zero_le _, hR0⟩
    case round =>
      obtain ⟨j, rfl, hj0, hR⟩ := hrel
      by_cases hj : j < S.size
      · have ji : (j : Int) < (S.size : Int) := by omega
        have hy0 : (X : Int) + j = ((X + j : Nat) : Int) := by omega
        obtain ⟨y, hy⟩ : ∃ y, X + j = y := ⟨_, rfl⟩
        rw [hy] at hy0
        obtain ⟨old, e0⟩ := hR.out.1.old y (by omega)
        have f0 := hR.out.1.by_.free y
        have c5 := hR.out.1.c5
        obtain ⟨cc, hcc⟩ : ∃ cc, cs[j]'(by rw [hcl.out]; exact hj) = cc := ⟨_, rfl⟩
        have y0 : (0 : Int) ≤ (y : Int) := by omega
        have y1 : (y : Int) < (L.b6 : Int) := by omega
        have j0 : (0 : Int) ≤ (j : Int) := by omega
        have hcS : S[j] = cc := by rw [← hcc]; exact ((hcs.out j hj).2).symm
        have hS2 := Lib.hid (RIm.lay (W := wr.drew) ⟨hR.out.1.draws 1, hR.out.2.draws 1⟩ (by rw [hcl.out]; exact hj) (by rw [hcl.out, hlen]; omega) cc hcc hy)
        have q1 : IntKind.i64.wrap ((X : Int) + j) = (y : Int) := by rw [hy0, IntKind.wrap_i64]; omega
        replace hcc := Lib.hid hcc
        replace hy := Lib.hid hy
        clear hy0 hR0
        go_wp2_with (fail)
        go_still_tail 11, (by kernel_rfl)
        change wpList _ _ _ _ _ wr.drew
        go_wp2_with (fail)
        exact ⟨⟨j + 1, rfl, hj, hS2⟩, by simp [intOf]; omega⟩
      · have ej : j = S.size := by omega
        subst ej
        go_wp2_with (fail)
        go_returns
        exact ⟨rfl, by have := hR.out.1; rw [List.take_of_length_le (by rw [hcl.out]; exact Nat.le_refl _)] at this; exact this, hR.out.2⟩
  · have g3 : (r == 1) = false := by simpa using hr
    go_enter Try.func65, Try.ntmps65
    go_wp2_with (fail)
    refine hS.out.mono ?_
    rintro e w1 ⟨rfl, hb⟩
    have hR0 : Hid (RIm w1 p b L (splice B X (cs.take 0)) o s ∧ Only b w w1) := Lib.hid ⟨by rw [List.take_zero, splice_none]; exact h.out.bel hb, Only.of_below hb b⟩
    clear hb
    go_wp2_with (fail)
    go_loopw [9] (fun x wr => ∃ j : Nat, x = .int .i64 j ∧ j ≤ S.size ∧ Hid (RIm wr p b L (splice B X (cs.take j)) o s ∧ Only b w wr)) (fun x _ => S.size - (intOf x).toNat)
    case atStart => exact ⟨0, rfl, Nat.zero_le _, hR0⟩
    case round =>
      obtain ⟨j, rfl, hj0, hR⟩ := hrel
      by_cases hj : j < S.size
      · have ji : (j : Int) < (S.size : Int) := by omega
        have hy0 : (X : Int) + j = ((X + j : Nat) : Int) := by omega
        obtain ⟨y, hy⟩ : ∃ y, X + j = y := ⟨_, rfl⟩
        rw [hy] at hy0
        obtain ⟨old, e0⟩ := hR.out.1.old y (by omega)
        have f0 := hR.out.1.by_.free y
        have c5 := hR.out.1.c5
        obtain ⟨cc, hcc⟩ : ∃ cc, cs[j]'(by rw [hcl.out]; exact hj) = cc := ⟨_, rfl⟩
        have y0 : (0 : Int) ≤ (y : Int) := by omega
        have y1 : (y : Int) < (L.b6 : Int) := by omega
        have j0 : (0 : Int) ≤ (j : Int) := by omega
        have hcS : S[j] = cc := by rw [← hcc]; exact ((hcs.out j hj).2).symm
        have hS2 := Lib.hid (RIm.lay (W := wr.drew) ⟨hR.out.1.draws 1, hR.out.2.draws 1⟩ (by rw [hcl.out]; exact hj) (by rw [hcl.out, hlen]; omega) cc hcc hy)
        have q1 : IntKind.i64.wrap ((X : Int) + j) = (y : Int) := by rw [hy0, IntKind.wrap_i64]; omega
        replace hcc := Lib.hid hcc
        replace hy := Lib.hid hy
        clear hy0 hR0
        go_wp2_with (fail)
        go_still_tail 11, (by kernel_rfl)
        change wpList _ _ _ _ _ wr.drew
        go_wp2_with (fail)
        exact ⟨⟨j + 1, rfl, hj, hS2⟩, by simp [intOf]; omega⟩
      · have ej : j = S.size := by omega
        subst ej
        go_wp2_with (fail)
        go_returns
        exact ⟨rfl, by have := hR.out.1; rw [List.take_of_length_le (by rw [hcl.out]; exact Nat.le_refl _)] at this; exact this, hR.out.2⟩
/-! Fill -/
theorem rfill_neg (a n v : Int) (hn : n < 0) : Calls Try.prog 54 #[.pointer (some ⟨p, 0, none⟩), .int .i64 mode, .int .i64 a, .int .i64 n, .int .u8 v] w fun e w' => e = .returned (.int .i64 19) ∧ Below w.heap.size w w' := by
  go_enter Try.func54, Try.ntmps54
  go_wp2_with (fail)
  go_returns
  exact ⟨rfl, Below.refl _ _⟩
theorem rfill_no (h : RIm w p b L B o s) (a n v : Int) (hn : 0 < n) (ha : -9223372036854775808 ≤ a ∧ a ≤ 9223372036854775807) (hok : ¬ rowOk L o s mode a n 2) : Calls Try.prog 54 #[.pointer (some ⟨p, 0, none⟩), .int .i64 mode, .int .i64 a, .int .i64 n, .int .u8 v] w fun e w' => e = .returned (.int .i64 5) ∧ Below w.heap.size w w' := by
  have hR := Lib.hid (rrow_no h a n 2 (by omega) ha (.inr rfl) (.inr hok))
  have h0 : ¬ (n : Int) < 0 := by omega
  clear h hok
  go_enter Try.func54, Try.ntmps54
  go_wp2_with (fail)
  refine hR.out.mono ?_
  rintro e w1 ⟨rfl, hb⟩
  go_wp2_with (fail)
  go_returns
  exact ⟨rfl, hb⟩
set_option maxRecDepth 100000 in
set_option maxHeartbeats 2000000 in
theorem rfill_zero (a v : Int) : Calls Try.prog 54 #[.pointer (some ⟨p, 0, none⟩), .int .i64 mode, .int .i64 a, .int .i64 0, .int .u8 v] w fun e w' => e = .returned (.int .i64 0) ∧ Below w.heap.size w w' := by
  have hR := Lib.hid (rrow_zero (p := p) mode a 2 w)
  go_enter Try.func54, Try.ntmps54
  go_wp2_with (fail)
  refine hR.out.mono ?_
  rintro e w1 ⟨rfl, hb⟩
  go_wp2_with (fail)
  refine wp_loop_rounds 1 ?_
  rw [rounds_succ]
  go_wp2_with (fail)
  go_returns
  exact ⟨rfl, hb⟩
set_option maxRecDepth 100000 in
set_option maxHeartbeats 2000000 in
theorem rfill_yes (h : RIm w p b L B o s) (X n : Nat) (c : UInt8) (hn : 0 < n) (hok : rowOk L o s mode X n 2) : Calls Try.prog 54 #[.pointer (some ⟨p, 0, none⟩), .int .i64 mode, .int .i64 X, .int .i64 n, .int .u8 (c.toNat : Int)] w fun e w' => e = .returned (.int .i64 0) ∧ RIm w' p b L (splice B X (List.replicate n c)) o s ∧ Only b w w' := by
  have hl := row_len h.ok hok
  have hR := Lib.hid (rrow_yes h X n 2 (by omega) (.inr rfl) hok)
  have m := Lay.mono h.ok
  have hlen := h.len
  have z0 : (0 : Int) ≤ (X : Int) := by omega
  have z1 : (0 : Int) < (n : Int) := by omega
  have z2 : (X : Int) + n ≤ (L.b6 : Int) := by omega
  have z3 : (L.b6 : Int) ≤ 200000 := by omega
  have h0 : ¬ (n : Int) < 0 := by omega
  replace h := Lib.hid h
  clear hok m hl
  obtain ⟨cs, hcseq, hcl, hcs⟩ : ∃ cs, List.replicate n c = cs ∧ Hid (cs.length = n) ∧ Hid (∀ j (hj : j < n), ∃ hj' : j < cs.length, cs[j] = c) := ⟨_, rfl, Lib.hid (by simp), Lib.hid fun j hj => ⟨by simpa using hj, by simp⟩⟩
  rw [hcseq]
  clear hcseq
  go_enter Try.func54, Try.ntmps54
  go_wp2_with (fail)
  refine hR.out.mono ?_
  rintro e w1 ⟨rfl, hb⟩
  have hR0 : Hid (RIm w1 p b L (splice B X (cs.take 0)) o s ∧ Only b w w1) := Lib.hid ⟨by rw [List.take_zero, splice_none]; exact h.out.bel hb, Only.of_below hb b⟩
  clear hb hR
  go_wp2_with (fail)
  go_loopw [12] (fun x wr => ∃ j : Nat, x = .int .i64 j ∧ j ≤ n ∧ Hid (RIm wr p b L (splice B X (cs.take j)) o s ∧ Only b w wr)) (fun x _ => n - (intOf x).toNat)
  case atStart => exact ⟨0, rfl, Nat.zero_le _, hR0⟩
  case round =>
    obtain ⟨j, rfl, hj0, hR⟩ := hrel
    by_cases hj : j < n
    · have ji : (j : Int) < (n : Int) := by omega
      have hy0 : (X : Int) + j = ((X + j : Nat) : Int) := by omega
      obtain ⟨y, hy⟩ : ∃ y, X + j = y := ⟨_, rfl⟩
      rw [hy] at hy0
      obtain ⟨old, e0⟩ := hR.out.1.old y (by omega)
      have f0 := hR.out.1.by_.free y
      have c5 := hR.out.1.c5
      obtain ⟨cc, hcc⟩ : ∃ cc, cs[j]'(by rw [hcl.out]; exact hj) = cc := ⟨_, rfl⟩
      have y0 : (0 : Int) ≤ (y : Int) := by omega
      have y1 : (y : Int) < (L.b6 : Int) := by omega
      have j0 : (0 : Int) ≤ (j : Int) := by omega
      have hcS : cc = c := by rw [← hcc]; exact ((hcs.out j hj).2)
      rw [hcS] at hcc
      have hS2 := Lib.hid (RIm.lay (W := wr) ⟨hR.out.1, hR.out.2⟩ (by rw [hcl.out]; exact hj) (by rw [hcl.out, hlen]; omega) c hcc hy)
      clear hcS
      replace hcc := Lib.hid hcc
      replace hy := Lib.hid hy
      clear hR0
      go_wp2_with (fail)
      exact ⟨⟨j + 1, rfl, hj, hS2⟩, by simp [intOf]; omega⟩
    · have ej : j = n := by omega
      subst ej
      go_wp2_with (fail)
      go_returns
      exact ⟨rfl, by have := hR.out.1; rw [List.take_of_length_le (by rw [hcl.out]; exact Nat.le_refl _)] at this; exact this, hR.out.2⟩
end
end Go.Proofs.Yteldbkdfphkdbaa
