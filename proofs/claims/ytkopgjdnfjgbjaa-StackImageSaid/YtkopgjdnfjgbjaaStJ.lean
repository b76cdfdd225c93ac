import Derived.Test.YtkopgjdnfjgbjaaStD
namespace Go.Proofs.Ytkopgjdnfjgbjaa
open Go.RowKit
set_option linter.unusedVariables false
set_option linter.unusedSimpArgs false
/-! the document's New -/
/-- the document's stack in memory: its cells in block g -/
structure Rf (w : World) (p g : Nat) (xs : List Int) (depth : Nat) (un ov : Int) : Prop where
  st : Bk w p 60 #[.slice (some ⟨g, 0, none⟩) xs.length xs.length, .int .i64 depth, .int .i64 un, .int .i64 ov]
  row : Bk w g 3 (i64s xs).toArray
theorem mk_int (m : Nat) (hm : m ≤ 17920) (W : World) : (Instr.makeSlice 38 (.int .i64 (m : Int)) (.int .i64 (m : Int))).run Try.prog W = .ok (.slice (some ⟨W.heap.size, 0, none⟩) m m) (W.alloc (.cells (i64s (List.replicate m 0)).toArray 3)) := by
  obtain ⟨ti, hti, htz, hts, htb⟩ := info_parts info_int
  have h := run_make (P := Try.prog) W 38 3 ti (.int .i64 0) Try.underlying38 hti htz .i64 .i64 (m : Int) (m : Int) (by omega) (Int.le_refl _) (by rw [htb]; omega) (by omega)
  rw [hts, Int.toNat_natCast, made_i64] at h
  exact h
set_option maxHeartbeats 1000000 in
theorem rnew_no (m : Nat) (hm : m ≤ 17920) (r : Int) (h4 : r ≠ 4) (h5 : r ≠ 5) (w : World) :
    Calls Try.prog 13 #[.int .i64 r, .int .i64 ((8 * m : Nat) : Int)] w fun e w' => e = .returned (.tuple #[.pointer none, .bool false]) ∧ Below w.heap.size w w' := by
  have i4 : (r == 4) = false := by simpa using h4
  have i5 : (r == 5) = false := by simpa using h5
  have e1 : (((8 * m : Nat) : Int)).tdiv 8 = (m : Int) := by rw [Int.natCast_mul]; exact Int.mul_tdiv_cancel_left _ (by decide)
  have e2 : wrap64 (m : Int) = (m : Int) := by clear e1; unfold wrap64; omega
  have hmk := mk_int m hm w
  obtain ⟨X, hX⟩ : ∃ X, w.alloc (.cells (i64s (List.replicate m 0)).toArray 3) = X := ⟨_, rfl⟩
  have hB : Below w.heap.size w X := by rw [← hX]; exact (Below.refl _ _).alloc (Nat.le_refl _) _
  rw [hX] at hmk
  clear hX
  obtain ⟨z, hz⟩ : ∃ z, 8 * m = z := ⟨_, rfl⟩
  rw [hz] at e1 ⊢
  clear hz hm
  go_enter Try.func13, Try.ntmps13
  go_wp2_with (fail)
  go_returns
  exact ⟨rfl, hB.alloc hB.size _⟩
set_option maxHeartbeats 1000000 in
theorem rnew_data (m : Nat) (hm : m ≤ 17920) (w : World) :
    Calls Try.prog 13 #[.int .i64 4, .int .i64 ((8 * m : Nat) : Int)] w fun e w' => ∃ q g, e = .returned (.tuple #[.pointer (some ⟨q, 0, none⟩), .bool true]) ∧ w.heap.size ≤ q ∧ w.heap.size ≤ g ∧ Rf w' q g (List.replicate m 0) 0 1 2 ∧ Below w.heap.size w w' := by
  have e1 : (((8 * m : Nat) : Int)).tdiv 8 = (m : Int) := by rw [Int.natCast_mul]; exact Int.mul_tdiv_cancel_left _ (by decide)
  have e2 : wrap64 (m : Int) = (m : Int) := by clear e1; unfold wrap64; omega
  have hmk := mk_int m hm w
  obtain ⟨X, hX⟩ : ∃ X, w.alloc (.cells (i64s (List.replicate m 0)).toArray 3) = X := ⟨_, rfl⟩
  have hB : Below w.heap.size w X := by rw [← hX]; exact (Below.refl _ _).alloc (Nat.le_refl _) _
  have hG : Bk X w.heap.size 3 (i64s (List.replicate m 0)).toArray := by rw [← hX]; exact Bk.fresh w _ _
  rw [hX] at hmk
  clear hX
  obtain ⟨z, hz⟩ : ∃ z, 8 * m = z := ⟨_, rfl⟩
  rw [hz] at e1 ⊢
  clear hz hm
  go_enter Try.func13, Try.ntmps13
  go_wp2_with (fail)
  go_returns
  refine ⟨X.heap.size, w.heap.size, rfl, hB.size, Nat.le_refl _, ⟨?_, hG.past _⟩, hB.alloc hB.size _⟩
  have := Bk.fresh X 60 #[.slice (some ⟨w.heap.size, 0, none⟩) m m, .int .i64 0, .int .i64 1, .int .i64 2]
  rw [List.length_replicate]
  exact this
set_option maxHeartbeats 1000000 in
theorem rnew_ret (m : Nat) (hm : m ≤ 17920) (w : World) :
    Calls Try.prog 13 #[.int .i64 5, .int .i64 ((8 * m : Nat) : Int)] w fun e w' => ∃ q g, e = .returned (.tuple #[.pointer (some ⟨q, 0, none⟩), .bool true]) ∧ w.heap.size ≤ q ∧ w.heap.size ≤ g ∧ Rf w' q g (List.replicate m 0) 0 3 4 ∧ Below w.heap.size w w' := by
  have e1 : (((8 * m : Nat) : Int)).tdiv 8 = (m : Int) := by rw [Int.natCast_mul]; exact Int.mul_tdiv_cancel_left _ (by decide)
  have e2 : wrap64 (m : Int) = (m : Int) := by clear e1; unfold wrap64; omega
  have hmk := mk_int m hm w
  obtain ⟨X, hX⟩ : ∃ X, w.alloc (.cells (i64s (List.replicate m 0)).toArray 3) = X := ⟨_, rfl⟩
  have hB : Below w.heap.size w X := by rw [← hX]; exact (Below.refl _ _).alloc (Nat.le_refl _) _
  have hG : Bk X w.heap.size 3 (i64s (List.replicate m 0)).toArray := by rw [← hX]; exact Bk.fresh w _ _
  rw [hX] at hmk
  clear hX
  obtain ⟨z, hz⟩ : ∃ z, 8 * m = z := ⟨_, rfl⟩
  rw [hz] at e1 ⊢
  clear hz hm
  go_enter Try.func13, Try.ntmps13
  go_wp2_with (fail)
  go_returns
  refine ⟨X.heap.size, w.heap.size, rfl, hB.size, Nat.le_refl _, ⟨?_, hG.past _⟩, hB.alloc hB.size _⟩
  have := Bk.fresh X 60 #[.slice (some ⟨w.heap.size, 0, none⟩) m m, .int .i64 0, .int .i64 3, .int .i64 4]
  rw [List.length_replicate]
  exact this
end Go.Proofs.Ytkopgjdnfjgbjaa
