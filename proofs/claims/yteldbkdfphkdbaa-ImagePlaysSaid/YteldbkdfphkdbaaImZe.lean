import Derived.Test.YteldbkdfphkdbaaImZd
namespace Go.Proofs.Yteldbkdfphkdbaa
open Go.RowKit
set_option linter.unusedVariables false
set_option linter.unusedSimpArgs false
/-! the document's Load -/
theorem loadL_is (B S : List UInt8) (x k : Nat) (hf : x + S.length + k ≤ B.length) : splice (splice B x S) (x + S.length) (List.replicate k 0) = splice B x (S ++ List.replicate k 0) := by
  have e1 := splice_len B x S (by omega)
  have e2 := splice_len (splice B x S) (x + S.length) (List.replicate k 0) (by rw [e1, List.length_replicate]; exact hf)
  have e3 := splice_len B x (S ++ List.replicate k 0) (by rw [List.length_append, List.length_replicate]; omega)
  apply ext_getD (by rw [e2, e1, e3])
  intro i hi
  by_cases h1 : x ≤ i ∧ i < x + (S.length + k)
  · rw [getD_in B (S ++ List.replicate k 0) x i (by rw [List.length_append, List.length_replicate]; omega) h1.1 (by rw [List.length_append, List.length_replicate]; omega)]
    by_cases h2 : i < x + S.length
    · rw [getD_lo _ _ _ _ (by rw [e1, List.length_replicate]; omega) h2, getD_in B S x i (by omega) h1.1 h2]
      rw [List.getD_eq_getElem?_getD, List.getD_eq_getElem?_getD, List.getElem?_append_left (by omega)]
    · rw [getD_in _ _ _ _ (by rw [e1, List.length_replicate]; omega) (by omega) (by rw [List.length_replicate]; omega)]
      rw [List.getD_eq_getElem?_getD, List.getD_eq_getElem?_getD, List.getElem?_append_right (by omega)]
      congr 2
      omega
  · rw [getD_out B (S ++ List.replicate k 0) x i (by rw [List.length_append, List.length_replicate]; omega) (by rw [List.length_append, List.length_replicate]; omega)]
    rw [getD_out _ _ _ _ (by rw [e1, List.length_replicate]; omega) (by rw [List.length_replicate]; omega), getD_out B S x i (by omega) (by omega)]
section
variable {w W : World} {p b : Nat} {L : Lay} {B : List UInt8} {o s : Bool} {mode : Int}
theorem secret_of (L : Lay) : L.from_ 2 = L.k ∧ L.to_ 2 = L.k + L.s := from_of L 2 (by decide) (by decide)
theorem rload_long (h : RIm w p b L B o s) (S : ByteArray) (hl : L.to_ 2 - L.from_ 2 < S.size) : Calls Try.prog 64 #[.pointer (some ⟨p, 0, none⟩), .string S] w fun e w' => e = .returned (.int .i64 2) ∧ Below w.heap.size w w' := by
  have hs := secret_of L
  have c1 := h.c1
  have i1 : (L.s : Int) < (S.size : Int) := by omega
  clear h hl hs
  go_enter Try.func64, Try.ntmps64
  go_wp2_with (fail)
  go_returns
  exact ⟨rfl, Below.refl _ _⟩
set_option maxRecDepth 100000 in
set_option maxHeartbeats 2000000 in
theorem rload_yes (h : RIm w p b L B o s) (S : ByteArray) (hl : S.size ≤ L.to_ 2 - L.from_ 2) : Calls Try.prog 64 #[.pointer (some ⟨p, 0, none⟩), .string S] w fun e w' => e = .returned (.int .i64 0) ∧ RIm w' p b L (loadL B (L.from_ 2) (L.to_ 2 - L.from_ 2) S.data.toList) o s ∧ Only b w w' := by
  have hs := secret_of L
  have c1 := h.c1
  have hle := Lay.from_le h.ok 2
  have m := Lay.mono h.ok
  have hS := rspan_any h 2
  have hlen := h.len
  have hld := loadL_is B S.data.toList (L.from_ 2) (L.to_ 2 - L.from_ 2 - S.size) (by rw [data_size]; omega)
  unfold loadL
  rw [data_size] at hld ⊢
  rw [hld]
  rw [hs.1, hs.2] at hS
  rw [hs.1, hs.2, show L.k + L.s - L.k - S.size = L.s - S.size from by omega]
  have i1 : (S.size : Int) ≤ (L.s : Int) := by omega
  have x0 : (0 : Int) ≤ (L.k : Int) := by omega
  have x2 : (L.k : Int) + L.s ≤ (L.b6 : Int) := by omega
  have x3 : (L.b6 : Int) ≤ 200000 := by omega
  replace h := Lib.hid h
  obtain ⟨k, hk⟩ : ∃ k, L.k = k := ⟨_, rfl⟩
  obtain ⟨z, hz⟩ : ∃ z, L.s = z := ⟨_, rfl⟩
  rw [hk, hz] at hS
  rw [hk] at x0 x2 ⊢
  rw [hz] at i1 x2 c1 ⊢
  clear hs hle m hld hl hk hz
  have hS' : Calls Try.prog 16 #[.pointer (some ⟨p, 0, none⟩), .int .i64 2] w fun e w' => e = .returned (.tuple #[.int .i64 k, .int .i64 ((k + z : Nat) : Int)]) ∧ Below w.heap.size w w' := hS
  clear hS
  obtain ⟨Y, hY⟩ : ∃ Y, k + z = Y := ⟨_, rfl⟩
  rw [hY] at hS'
  have y2 : (Y : Int) - k = (z : Int) := by omega
  have y3 : (Y : Int) ≤ (L.b6 : Int) := by omega
  replace hY := Lib.hid hY
  replace hS' := Lib.hid hS'
  obtain ⟨cs, hcseq, hcl, hcs, hcz⟩ : ∃ cs : List UInt8, S.data.toList ++ List.replicate (z - S.size) 0 = cs ∧ Hid (cs.length = z) ∧ Hid (∀ j (hj : j < S.size), ∃ hj' : j < cs.length, cs[j] = S[j]) ∧ Hid (∀ j, S.size ≤ j → ∀ (hj' : j < cs.length), cs[j] = 0) := by
    refine ⟨_, rfl, Lib.hid (by rw [List.length_append, List.length_replicate, data_size]; omega), Lib.hid fun j hj => ⟨by rw [List.length_append, data_size]; omega, ?_⟩, Lib.hid fun j hj hj' => ?_⟩
    · rw [List.getElem_append_left (by rw [data_size]; exact hj)]; rfl
    · rw [List.getElem_append_right (by rw [data_size]; exact hj)]; simp
  rw [hcseq]
  clear hcseq
  go_enter Try.func64, Try.ntmps64
  go_wp2_with (fail)
  refine hS'.out.mono ?_
  rintro e w1 ⟨rfl, hb⟩
  have hR0 : Hid (RIm w1 p b L (splice B k (cs.take 0)) o s ∧ Only b w w1) := Lib.hid ⟨by rw [List.take_zero, splice_none]; exact h.out.bel hb, Only.of_below hb b⟩
  clear hb hS' h
  go_wp2_with (fail)
  go_loopw [7] (fun x wr => ∃ j : Nat, x = .int .i64 j ∧ j ≤ z ∧ Hid (RIm wr p b L (splice B k (cs.take j)) o s ∧ Only b w wr)) (fun x _ => z - (intOf x).toNat)
  case atStart => exact ⟨0, rfl, Nat.zero_le _, hR0⟩
  case round =>
    obtain ⟨j, rfl, hj0, hR⟩ := hrel
    by_cases hj : j < z
    · have ji : (j : Int) < (z : Int) := by omega
      have hy0 : (k : Int) + j = ((k + j : Nat) : Int) := by omega
      obtain ⟨y, hy⟩ : ∃ y, k + j = y := ⟨_, rfl⟩
      rw [hy] at hy0
      obtain ⟨old, e0⟩ := hR.out.1.old y (by omega)
      have f0 := hR.out.1.by_.free y
      have c5 := hR.out.1.c5
      have y0 : (0 : Int) ≤ (y : Int) := by omega
      have y1 : (y : Int) < (L.b6 : Int) := by omega
      have j0 : (0 : Int) ≤ (j : Int) := by omega
      have hjl : j < cs.length := by rw [hcl.out]; exact hj
      have hf : k + cs.length ≤ B.length := by rw [hcl.out, hlen]; omega
      have q1 : IntKind.i64.wrap ((k : Int) + j) = (y : Int) := by rw [hy0, IntKind.wrap_i64]; omega
      have q2 : IntKind.i64.wrap (y : Int) = (y : Int) := by clear q1; rw [IntKind.wrap_i64]; omega
      by_cases hjs : j < S.size
      · have js : (j : Int) < (S.size : Int) := by omega
        obtain ⟨cc, hcc⟩ : ∃ cc, cs[j] = cc := ⟨_, rfl⟩
        have hcS : S[j] = cc := by rw [← hcc]; exact ((hcs.out j hjs).2).symm
        have hP1 : RIm (wr.setCell ⟨b, y, none⟩ (.int .u8 0)) p b L ((splice B k (cs.take j)).set y 0) o s := hR.out.1.put y 0
        have hO1 := hR.out.2.put y (.int .u8 0)
        have hS2 : Hid (RIm (((wr.setCell ⟨b, y, none⟩ (.int .u8 0)).drew).setCell ⟨b, y, none⟩ (.int .u8 (cc.toNat : Int))) p b L (splice B k (cs.take (j + 1))) o s ∧ Only b w (((wr.setCell ⟨b, y, none⟩ (.int .u8 0)).drew).setCell ⟨b, y, none⟩ (.int .u8 (cc.toNat : Int)))) := Lib.hid ⟨by
          have := (hP1.draws 1).put y cc
          rw [List.set_set, ← hy, ← hcc, splice_step B cs k j hjl hf, hcc, hy] at this
          exact this, (hO1.draws 1).put y _⟩
        obtain ⟨W1, hW1⟩ : ∃ W1, wr.setCell ⟨b, y, none⟩ (.int .u8 0) = W1 := ⟨_, rfl⟩
        rw [hW1] at hP1 hS2
        obtain ⟨old2, e2⟩ := hP1.old y (by omega)
        have f2 := hP1.by_.free y
        have c52 := hP1.c5
        have u52 : ({ heap := W1.heap, tape := W1.tape, drawn := W1.drawn + 1, os := W1.os, output := W1.output } : World).cell? ⟨p, 5, none⟩ = some (.slice (some ⟨b, 0, none⟩) L.b6 L.b6) := c52
        replace hy := Lib.hid hy
        clear hcc hR0 hP1 hO1 hjl hf
        go_wp2_with (fail)
        go_still_tail 11, (by kernel_rfl)
        change wpList _ _ _ _ _ W1.drew
        go_wp2_with (fail)
        exact ⟨⟨j + 1, rfl, hj, hS2⟩, by simp [intOf]; omega⟩
      · have js : ¬ (j : Int) < (S.size : Int) := by omega
        have hS2 := Lib.hid (RIm.lay (W := wr) hR.out hjl hf 0 (hcz.out j (by omega) hjl) hy)
        replace hy := Lib.hid hy
        clear hR0 hjl hf
        go_wp2_with (fail)
        exact ⟨⟨j + 1, rfl, hj, hS2⟩, by simp [intOf]; omega⟩
    · have ej : j = z := by omega
      subst ej
      go_wp2_with (fail)
      go_returns
      exact ⟨rfl, by have := hR.out.1; rw [List.take_of_length_le (by rw [hcl.out]; exact Nat.le_refl _)] at this; exact this, hR.out.2⟩
end
end Go.Proofs.Yteldbkdfphkdbaa
