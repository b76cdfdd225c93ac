import Derived.Test.YteldbkdfphkdbaaImZb
namespace Go.Proofs.Yteldbkdfphkdbaa
open Go.RowKit
set_option linter.unusedVariables false
set_option linter.unusedSimpArgs false
/-! the document's SetCell -/
section
variable {w W : World} {p b : Nat} {L : Lay} {B : List UInt8} {o s : Bool} {mode : Int}
theorem RIm.past (h : RIm W p b L B o s) (x : Obj) : RIm (W.alloc x) p b L B o s := ⟨h.ok, h.st.past x, h.by_.past x, h.len⟩
set_option maxRecDepth 100000 in
set_option maxHeartbeats 2000000 in
theorem rsetcell_yes (h : RIm w p b L B o s) (a : Nat) (v : Int) (hv : isI v) (h8 : a % 8 = 0) (hok : rowOk L o s mode a 8 2) :
    Calls Try.prog 51 #[.pointer (some ⟨p, 0, none⟩), .int .i64 mode, .int .i64 a, .int .i64 v] w fun e w' => e = .returned (.int .i64 0) ∧ RIm w' p b L (splice B a (by8 v)) o s ∧ Only b w w' := by
  have q0 : ((a : Int).tmod 8 != 0) = false := by simpa using tm_yes (a := (a : Int)) (by omega)
  have q00 : ((a : Int) % 8 != 0) = false := by simp; omega
  have hl := row_len h.ok hok
  have hR := Lib.hid (rrow_yes h a 8 2 (by decide) (.inr rfl) hok)
  have hY := fun W => rbytes8 v W hv
  have hlen := h.len
  have z0 : (0 : Int) ≤ (a : Int) := by omega
  have z2 : (a : Int) + 8 ≤ (L.b6 : Int) := by omega
  have m := Lay.mono h.ok
  have z3 : (L.b6 : Int) ≤ 200000 := by omega
  obtain ⟨c0, c1, c2, c3, c4, c5, c6, c7, hV⟩ := list8 (by8 v) (by8_length v)
  have hcl : Hid ((by8 v).length = 8) := Lib.hid (by8_length v)
  have hVs : ∀ W q, Bk W q 85 #[.int .u8 (c0.toNat : Int), .int .u8 (c1.toNat : Int), .int .u8 (c2.toNat : Int), .int .u8 (c3.toNat : Int), .int .u8 (c4.toNat : Int), .int .u8 (c5.toNat : Int), .int .u8 (c6.toNat : Int), .int .u8 (c7.toNat : Int)] → Bk W q 85 (u8s (by8 v)).toArray := fun W q g => by rw [hV]; exact g
  rw [hV] at hY
  clear hV
  replace hY : ∀ W, Calls Try.prog 61 #[.int .i64 v] W fun e w' => e = .returned (.agg #[.int .u8 (c0.toNat : Int), .int .u8 (c1.toNat : Int), .int .u8 (c2.toNat : Int), .int .u8 (c3.toNat : Int), .int .u8 (c4.toNat : Int), .int .u8 (c5.toNat : Int), .int .u8 (c6.toNat : Int), .int .u8 (c7.toNat : Int)]) ∧ Below W.heap.size W w' := hY
  generalize by8 v = cs at *
  replace hY := Lib.hid hY
  replace hVs := Lib.hid hVs
  replace h := Lib.hid h
  clear hl hok h8 m
  go_enter Try.func51, Try.ntmps51
  go_wp2_with (fail)
  refine hR.out.mono ?_
  rintro e w1 ⟨rfl, hb⟩
  go_wp2_with (fail)
  refine (hY.out _).mono ?_
  rintro e w2 ⟨rfl, hb2⟩
  replace hb := hb.trans (hb2.mono hb.size)
  have hI := h.out.bel hb
  have hR0 : Hid (RIm (w2.alloc (.cells #[.int .u8 (c0.toNat : Int), .int .u8 (c1.toNat : Int), .int .u8 (c2.toNat : Int), .int .u8 (c3.toNat : Int), .int .u8 (c4.toNat : Int), .int .u8 (c5.toNat : Int), .int .u8 (c6.toNat : Int), .int .u8 (c7.toNat : Int)] 85)) p b L (splice B a (cs.take 0)) o s ∧ Only b w (w2.alloc (.cells #[.int .u8 (c0.toNat : Int), .int .u8 (c1.toNat : Int), .int .u8 (c2.toNat : Int), .int .u8 (c3.toNat : Int), .int .u8 (c4.toNat : Int), .int .u8 (c5.toNat : Int), .int .u8 (c6.toNat : Int), .int .u8 (c7.toNat : Int)] 85))) := Lib.hid ⟨by rw [List.take_zero, splice_none]; exact hI.past _, (Only.of_below hb b).past _⟩
  have hF := hVs.out _ _ (Bk.fresh w2 85 #[.int .u8 (c0.toNat : Int), .int .u8 (c1.toNat : Int), .int .u8 (c2.toNat : Int), .int .u8 (c3.toNat : Int), .int .u8 (c4.toNat : Int), .int .u8 (c5.toNat : Int), .int .u8 (c6.toNat : Int), .int .u8 (c7.toNat : Int)])
  have hqb : Hid (w2.heap.size ≠ b) := Lib.hid (fun e => by have := hI.by_.lt; omega)
  replace hF := Lib.hid hF
  clear hb hb2 hI h hR hY hVs
  go_wp2_with (fail)
  obtain ⟨w3, hw3⟩ : ∃ w3, w2.alloc (.cells #[.int .u8 (c0.toNat : Int), .int .u8 (c1.toNat : Int), .int .u8 (c2.toNat : Int), .int .u8 (c3.toNat : Int), .int .u8 (c4.toNat : Int), .int .u8 (c5.toNat : Int), .int .u8 (c6.toNat : Int), .int .u8 (c7.toNat : Int)] 85) = w3 := ⟨_, rfl⟩
  rw [hw3] at hR0 hF ⊢
  clear hw3
  obtain ⟨q, hq⟩ : ∃ q, w2.heap.size = q := ⟨_, rfl⟩
  rw [hq] at hF hqb ⊢
  clear hq
  go_loopw [11] (fun x wr => ∃ j : Nat, x = .int .i64 j ∧ j ≤ 8 ∧ Hid (RIm wr p b L (splice B a (cs.take j)) o s ∧ Only b w wr) ∧ Hid (Bk wr q 85 (u8s cs).toArray)) (fun x _ => 8 - (intOf x).toNat)
  case atStart => exact ⟨0, rfl, Nat.zero_le _, hR0, hF⟩
  case round =>
    obtain ⟨j, rfl, hj0, hR, hG⟩ := hrel
    by_cases hj : j < 8
    · have ji : (j : Int) < 8 := by omega
      have hy0 : (a : Int) + j = ((a + j : Nat) : Int) := by omega
      obtain ⟨y, hy⟩ : ∃ y, a + j = y := ⟨_, rfl⟩
      rw [hy] at hy0
      obtain ⟨old, e0⟩ := hR.out.1.old y (by omega)
      have f0 := hR.out.1.by_.free y
      have c5 := hR.out.1.c5
      obtain ⟨cc, hcc⟩ : ∃ cc, cs[j]'(by rw [hcl.out]; exact hj) = cc := ⟨_, rfl⟩
      have y0 : (0 : Int) ≤ (y : Int) := by omega
      have y1 : (y : Int) < (L.b6 : Int) := by omega
      have j0 : (0 : Int) ≤ (j : Int) := by omega
      have e1 : wr.cell? ⟨q, j, none⟩ = some (.int .u8 (cc.toNat : Int)) := by
        rw [hG.out.cell, ← hcc]
        simpa using u8s_at cs j (by rw [hcl.out]; exact hj)
      have hS2 := Lib.hid (RIm.lay (W := wr.drew) ⟨hR.out.1.draws 1, hR.out.2.draws 1⟩ (by rw [hcl.out]; exact hj) (by rw [hcl.out, hlen]; omega) cc hcc hy)
      have hG2 := Lib.hid (hG.out.draw.other (p := ⟨b, y, none⟩) hqb.out (.int .u8 (cc.toNat : Int)))
      have q1 : IntKind.i64.wrap ((a : Int) + j) = (y : Int) := by rw [hy0, IntKind.wrap_i64]; omega
      replace hcc := Lib.hid hcc
      replace hy := Lib.hid hy
      clear hy0 hR0
      go_wp2_with (fail)
      go_still_tail 11, (by kernel_rfl)
      change wpList _ _ _ _ _ wr.drew
      go_wp2_with (fail)
      exact ⟨⟨j + 1, rfl, hj, hS2, hG2⟩, by simp [intOf]; omega⟩
    · have ej : j = 8 := by omega
      subst ej
      go_wp2_with (fail)
      go_returns
      exact ⟨rfl, by have := hR.out.1; rw [List.take_of_length_le (by rw [hcl.out]; exact Nat.le_refl _)] at this; exact this, hR.out.2⟩
end
end Go.Proofs.Yteldbkdfphkdbaa
