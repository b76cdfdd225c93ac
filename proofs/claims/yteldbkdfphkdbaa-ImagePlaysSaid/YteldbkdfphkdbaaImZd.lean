import Derived.Test.YteldbkdfphkdbaaImZc
namespace Go.Proofs.Yteldbkdfphkdbaa
open Go.RowKit
set_option linter.unusedVariables false
set_option linter.unusedSimpArgs false
/-! the document's Cell -/
section
variable {w W : World} {p b : Nat} {L : Lay} {B : List UInt8} {o s : Bool} {mode : Int}
theorem RIm.far (h : RIm W p b L B o s) (q : Nat) (hp : p ≠ q) (hb : b ≠ q) (i : Nat) (u : Value) : RIm (W.setCell ⟨q, i, none⟩ u) p b L B o s := ⟨h.ok, h.st.other (p := ⟨q, i, none⟩) hp u, h.by_.other (p := ⟨q, i, none⟩) hb u, h.len⟩
theorem splice_all (cs : List UInt8) (n : Nat) (h : cs.length = n) : splice (List.replicate n 0) 0 cs = cs := by
  subst h
  simp [splice]
set_option maxRecDepth 100000 in
set_option maxHeartbeats 2000000 in
theorem rcell_yes (h : RIm w p b L B o s) (a : Nat) (v : Int) (h8 : a % 8 = 0) (hok : rowOk L o s mode a 8 1) (hv : cel B a = v) :
    Calls Try.prog 50 #[.pointer (some ⟨p, 0, none⟩), .int .i64 mode, .int .i64 a] w fun e w' => e = .returned (.tuple #[.int .i64 v, .int .i64 0]) ∧ Below w.heap.size w w' := by
  have q0 : ((a : Int) % 8 != 0) = false := by simp; omega
  have hl := row_len h.ok hok
  have hR := Lib.hid (rrow_yes h a 8 1 (by decide) (.inl rfl) hok)
  have hlen := h.len
  have z0 : (0 : Int) ≤ (a : Int) := by omega
  have z2 : (a : Int) + 8 ≤ (L.b6 : Int) := by omega
  have m := Lay.mono h.ok
  have z3 : (L.b6 : Int) ≤ 200000 := by omega
  have hrl := rowL_len B a 8 (by rw [h.len]; omega)
  have hcel : cel (rowL B a 8) 0 = v := by
    rw [← hv]
    exact cel_congr _ _ _ _ fun k hk => by
      rw [Nat.zero_add]
      unfold rowL
      rw [List.getD_eq_getElem?_getD, List.getElem?_take_of_lt hk, List.getElem?_drop, ← List.getD_eq_getElem?_getD]
  have hat := fun W (h : RIm W p b L B o s) => rrowL_at h a 8
  generalize rowL B a 8 = cs at *
  obtain ⟨c0, c1, c2, c3, c4, c5, c6, c7, hV⟩ := list8 cs hrl
  have hOf : ∀ W, Calls Try.prog 60 #[.agg #[.int .u8 (c0.toNat : Int), .int .u8 (c1.toNat : Int), .int .u8 (c2.toNat : Int), .int .u8 (c3.toNat : Int), .int .u8 (c4.toNat : Int), .int .u8 (c5.toNat : Int), .int .u8 (c6.toNat : Int), .int .u8 (c7.toNat : Int)]] W fun e w' => e = .returned (.int .i64 v) ∧ Below W.heap.size W w' := fun W => by
    rw [← hcel, hV]
    exact rof_any c0.toNat c1.toNat c2.toNat c3.toNat c4.toNat c5.toNat c6.toNat c7.toNat W (u8_isB c0) (u8_isB c1) (u8_isB c2) (u8_isB c3) (u8_isB c4) (u8_isB c5) (u8_isB c6) (u8_isB c7)
  have hcl : Hid (cs.length = 8) := Lib.hid hrl
  have hVs : ∀ W q, Bk W q 85 (u8s (splice (List.replicate 8 0) 0 (cs.take 8))).toArray → Bk W q 85 #[.int .u8 (c0.toNat : Int), .int .u8 (c1.toNat : Int), .int .u8 (c2.toNat : Int), .int .u8 (c3.toNat : Int), .int .u8 (c4.toNat : Int), .int .u8 (c5.toNat : Int), .int .u8 (c6.toNat : Int), .int .u8 (c7.toNat : Int)] := fun W q g => by
    rw [List.take_of_length_le (by omega), splice_all cs 8 hrl, hV] at g
    exact g
  replace hVs := Lib.hid hVs
  replace hOf := Lib.hid hOf
  replace hat := Lib.hid hat
  replace h := Lib.hid h
  clear hl hok h8 m hv hcel hV hrl
  go_enter Try.func50, Try.ntmps50
  go_wp2_with (fail)
  refine hR.out.mono ?_
  rintro e w1 ⟨rfl, hb⟩
  have hI := h.out.bel hb
  have hF := Bk.fresh w1 85 #[.int .u8 0, .int .u8 0, .int .u8 0, .int .u8 0, .int .u8 0, .int .u8 0, .int .u8 0, .int .u8 0]
  have hI2 := hI.past (.cells #[.int .u8 0, .int .u8 0, .int .u8 0, .int .u8 0, .int .u8 0, .int .u8 0, .int .u8 0, .int .u8 0] 85)
  have hb2 := hb.alloc hb.size (.cells #[.int .u8 0, .int .u8 0, .int .u8 0, .int .u8 0, .int .u8 0, .int .u8 0, .int .u8 0, .int .u8 0] 85)
  have hqb : Hid (p ≠ w1.heap.size ∧ b ≠ w1.heap.size) := Lib.hid ⟨fun e => by have := hI.st.lt; omega, fun e => by have := hI.by_.lt; omega⟩
  have hqw : Hid (w.heap.size ≤ w1.heap.size) := Lib.hid hb.size
  clear hI hb hR h
  replace hb2 := Lib.hid hb2
  replace hF := Lib.hid hF
  replace hI2 := Lib.hid hI2
  go_wp2_with (fail)
  obtain ⟨w3, hw3⟩ : ∃ w3, w1.alloc (.cells #[.int .u8 0, .int .u8 0, .int .u8 0, .int .u8 0, .int .u8 0, .int .u8 0, .int .u8 0, .int .u8 0] 85) = w3 := ⟨_, rfl⟩
  rw [hw3] at hF hI2 hb2 ⊢
  clear hw3
  obtain ⟨q, hq⟩ : ∃ q, w1.heap.size = q := ⟨_, rfl⟩
  rw [hq] at hF hqb hqw ⊢
  clear hq
  have hX0 : Hid (Bk w3 q 85 (u8s (splice (List.replicate 8 0) 0 (cs.take 0))).toArray) := Lib.hid (by rw [List.take_zero, splice_none]; exact hF.out)
  clear hF
  go_loopw [10] (fun x wr => ∃ j : Nat, x = .int .i64 j ∧ j ≤ 8 ∧ Hid (RIm wr p b L B o s) ∧ Hid (Bk wr q 85 (u8s (splice (List.replicate 8 0) 0 (cs.take j))).toArray) ∧ Hid (Below w.heap.size w wr)) (fun x _ => 8 - (intOf x).toNat)
  case atStart => exact ⟨0, rfl, Nat.zero_le _, hI2, hX0, hb2⟩
  case round =>
    obtain ⟨j, rfl, hj0, hI, hG, hB⟩ := hrel
    by_cases hj : j < 8
    · have ji : (j : Int) < 8 := by omega
      have j0 : (0 : Int) ≤ (j : Int) := by omega
      have hy0 : (a : Int) + j = ((a + j : Nat) : Int) := by omega
      obtain ⟨y, hy⟩ : ∃ y, a + j = y := ⟨_, rfl⟩
      have e0 := hat.out wr hI.out j (by rw [hcl.out]; exact hj)
      rw [hy] at hy0 e0
      have c5' := hI.out.c5
      obtain ⟨cc, hcc⟩ : ∃ cc, cs[j]'(by rw [hcl.out]; exact hj) = cc := ⟨_, rfl⟩
      rw [hcc] at e0
      have y0 : (0 : Int) ≤ (y : Int) := by omega
      have y1 : (y : Int) < (L.b6 : Int) := by omega
      have f1 := hG.out.free j
      have hsj : j < (splice (List.replicate 8 0) 0 (cs.take j)).length := by rw [splice_len _ _ _ (by simp; omega)]; simpa using hj
      obtain ⟨old, e1⟩ : ∃ old, wr.cell? ⟨q, j, none⟩ = some old := by
        have h1 := hG.out.cell j
        rw [List.getElem?_toArray, u8s_at _ j hsj] at h1
        exact ⟨_, h1⟩
      clear hsj
      have hst := splice_step (List.replicate 8 0) cs 0 j (by rw [hcl.out]; exact hj) (by rw [hcl.out]; simp)
      rw [Nat.zero_add, hcc] at hst
      have hG2 : Hid (Bk (wr.setCell ⟨q, j, none⟩ (.int .u8 (cc.toNat : Int))) q 85 (u8s (splice (List.replicate 8 0) 0 (cs.take (j + 1)))).toArray) := Lib.hid (by
        have := hG.out.put j (.int .u8 (cc.toNat : Int))
        rw [← hst]
        simpa [u8s, List.map_set] using this)
      have hI3 := Lib.hid (hI.out.far q hqb.out.1 hqb.out.2 j (.int .u8 (cc.toNat : Int)))
      have hB2 := Lib.hid (hB.out.setCell (p := ⟨q, j, none⟩) hqw.out (.int .u8 (cc.toNat : Int)))
      replace hcc := Lib.hid hcc
      replace hy := Lib.hid hy
      replace hst := Lib.hid hst
      clear hX0 hI2 hb2
      go_wp2_with (fail)
      exact ⟨⟨j + 1, rfl, hj, hI3, hG2, hB2⟩, by simp [intOf]; omega⟩
    · have ej : j = 8 := by omega
      subst ej
      have hG2 := hVs.out _ _ hG.out
      have d0 := hG2.cell 0
      have d1 := hG2.cell 1
      have d2 := hG2.cell 2
      have d3 := hG2.cell 3
      have d4 := hG2.cell 4
      have d5 := hG2.cell 5
      have d6 := hG2.cell 6
      have d7 := hG2.cell 7
      simp at d0 d1 d2 d3 d4 d5 d6 d7
      clear hG2
      go_wp2_with (fail)
      refine (hOf.out _).mono ?_
      rintro e w9 ⟨rfl, hb9⟩
      go_wp2_with (fail)
      go_returns
      exact ⟨rfl, hB.out.trans (hb9.mono hB.out.size)⟩
end
end Go.Proofs.Yteldbkdfphkdbaa
