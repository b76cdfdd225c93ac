import Derived.Test.YtmfffaocmboelaaFwE
namespace Go.Proofs.Ytmfffaocmboelaa
open Go.RowKit
set_option linter.unusedVariables false
set_option linter.unusedSimpArgs false
/-! the words of count, each once -/
section
variable {w w' : World} {b g o : Nat} {here behind y : Int} {T : Addr} {n0 n1 n2 n3 v m V : Value} {l : List Ac} {word : ByteArray} {at_ tg : Int}
set_option maxHeartbeats 1000000 in
theorem ct_do (h : Wk w b (.slice none 0 0) [] here here T n0 n1 n2 n3) (hy : IntKind.i64.wrap (here + 8) = y) :
    Calls Try.prog 20 #[.pointer (some ⟨b, 0, none⟩), .string ⟨#[68, 79]⟩, V] w fun e w' => e = .returned (.int .i64 1) ∧ ∃ v', Wk w' b v' [⟨false, here, 6, 0⟩] here y T (.string ⟨#[68, 79]⟩) (.int .i64 y) (.int .i64 0) (.slice none 0 0) ∧ Below b w w' := by
  have hL := lay_any h (Nat.zero_le _) 6 0 y hy
  replace hL := Lib.hid hL
  clear h
  go_enter Try.func20, Try.ntmps20
  go_wp2_with (go_at_call 28; refine hL.out.mono ?_; rintro e w1 ⟨rfl, v', hW, hB⟩; have c1 := hW.bk.cell 1; have c2 := hW.bk.cell 2; have c3 := hW.bk.cell 3; have c4 := hW.bk.cell 4; have c5 := hW.bk.cell 5; have c6 := hW.bk.cell 6; have c7 := hW.bk.cell 7; have d4 := hW.bk.free 4; have d5 := hW.bk.free 5; have d6 := hW.bk.free 6; have d7 := hW.bk.free 7; simp at c1 c2 c3 c4 c5 c6 c7; replace hW := Lib.hid hW; replace hB := Lib.hid hB)
  go_returns
  exact ⟨rfl, v', hW.out.next _ _ _ _, below_set4 hB.out (Nat.le_refl _) _ _ _ _⟩
set_option maxHeartbeats 1000000 in
theorem ct_case (h : Wk w b (.slice none 0 0) [] here here T n0 n1 n2 n3) :
    Calls Try.prog 20 #[.pointer (some ⟨b, 0, none⟩), .string ⟨#[67, 65, 83, 69]⟩, V] w fun e w' => e = .returned (.int .i64 1) ∧ Wk w' b (.slice none 0 0) [] here here T (.string ⟨#[67, 65, 83, 69]⟩) (.int .i64 0) (.int .i64 0) (.slice none 0 0) ∧ Below b w w' := by
  have hW := h
  have c1 := hW.bk.cell 1; have c2 := hW.bk.cell 2; have c3 := hW.bk.cell 3; have c4 := hW.bk.cell 4; have c5 := hW.bk.cell 5; have c6 := hW.bk.cell 6; have c7 := hW.bk.cell 7; have d4 := hW.bk.free 4; have d5 := hW.bk.free 5; have d6 := hW.bk.free 6; have d7 := hW.bk.free 7; simp at c1 c2 c3 c4 c5 c6 c7
  clear hW
  replace h := Lib.hid h
  go_enter Try.func20, Try.ntmps20
  go_wp2_with (fail)
  go_returns
  exact ⟨rfl, h.out.next _ _ _ _, below_set4 (Below.refl _ _) (Nat.le_refl _) _ _ _ _⟩
set_option maxHeartbeats 1000000 in
theorem ct_loop (h : Wk w b (.slice none 0 0) [] here here ⟨g, o, none⟩ n0 n1 n2 n3) (hT : Tp w g o word at_ tg m) (hg : g < b) (hy : IntKind.i64.wrap (here + 8) = y) :
    Calls Try.prog 20 #[.pointer (some ⟨b, 0, none⟩), .string ⟨#[76, 79, 79, 80]⟩, V] w fun e w' => e = .returned (.int .i64 3) ∧ ∃ v', Wk w' b v' [⟨false, here, 8, at_⟩] here y ⟨g, o, none⟩ n0 n1 n2 n3 ∧ Below b w w' := by
  have hL := lay_any h (Nat.zero_le _) 8 at_ y hy
  have hW := h
  have t1 := hT.c1
  have c1 := hW.bk.cell 1; have c2 := hW.bk.cell 2; have c3 := hW.bk.cell 3; have c4 := hW.bk.cell 4; have c5 := hW.bk.cell 5; have c6 := hW.bk.cell 6; have c7 := hW.bk.cell 7; have d4 := hW.bk.free 4; have d5 := hW.bk.free 5; have d6 := hW.bk.free 6; have d7 := hW.bk.free 7; simp at c1 c2 c3 c4 c5 c6 c7
  clear hW hT
  replace hL := Lib.hid hL
  clear h
  go_enter Try.func20, Try.ntmps20
  go_wp2_with (go_at_call 28; refine hL.out.mono ?_; rintro e w1 ⟨rfl, v', hW, hB⟩; replace hW := Lib.hid hW; replace hB := Lib.hid hB)
  go_returns
  exact ⟨rfl, v', hW.out, hB.out⟩
set_option maxHeartbeats 1000000 in
theorem ct_ploop (h : Wk w b (.slice none 0 0) [] here here ⟨g, o, none⟩ n0 n1 n2 n3) (hT : Tp w g o word at_ tg m) (hg : g < b) (hy : IntKind.i64.wrap (here + 8) = y) :
    Calls Try.prog 20 #[.pointer (some ⟨b, 0, none⟩), .string ⟨#[43, 76, 79, 79, 80]⟩, V] w fun e w' => e = .returned (.int .i64 3) ∧ ∃ v', Wk w' b v' [⟨false, here, 9, at_⟩] here y ⟨g, o, none⟩ n0 n1 n2 n3 ∧ Below b w w' := by
  have hL := lay_any h (Nat.zero_le _) 9 at_ y hy
  have hW := h
  have t1 := hT.c1
  have c1 := hW.bk.cell 1; have c2 := hW.bk.cell 2; have c3 := hW.bk.cell 3; have c4 := hW.bk.cell 4; have c5 := hW.bk.cell 5; have c6 := hW.bk.cell 6; have c7 := hW.bk.cell 7; have d4 := hW.bk.free 4; have d5 := hW.bk.free 5; have d6 := hW.bk.free 6; have d7 := hW.bk.free 7; simp at c1 c2 c3 c4 c5 c6 c7
  clear hW hT
  replace hL := Lib.hid hL
  clear h
  go_enter Try.func20, Try.ntmps20
  go_wp2_with (go_at_call 28; refine hL.out.mono ?_; rintro e w1 ⟨rfl, v', hW, hB⟩; replace hW := Lib.hid hW; replace hB := Lib.hid hB)
  go_returns
  exact ⟨rfl, v', hW.out, hB.out⟩
set_option maxHeartbeats 1000000 in
theorem ct_endcase (h : Wk w b (.slice none 0 0) [] here here T n0 n1 n2 n3) (hy : IntKind.i64.wrap (here + 8) = y) :
    Calls Try.prog 20 #[.pointer (some ⟨b, 0, none⟩), .string ⟨#[69, 78, 68, 67, 65, 83, 69]⟩, V] w fun e w' => e = .returned (.int .i64 3) ∧ ∃ v', Wk w' b v' [⟨false, here, 22, 0⟩] here y T n0 n1 n2 n3 ∧ Below b w w' := by
  have hL := lay_any h (Nat.zero_le _) 22 0 y hy
  replace hL := Lib.hid hL
  clear h
  go_enter Try.func20, Try.ntmps20
  go_wp2_with (go_at_call 28; refine hL.out.mono ?_; rintro e w1 ⟨rfl, v', hW, hB⟩; replace hW := Lib.hid hW; replace hB := Lib.hid hB)
  go_returns
  exact ⟨rfl, v', hW.out, hB.out⟩
set_option maxHeartbeats 2000000 in
set_option maxRecDepth 100000 in
theorem ct_qdo (h : Wk w b (.slice none 0 0) [] here here T n0 n1 n2 n3) (hy : IntKind.i64.wrap (here + 8) = y) :
    Calls Try.prog 20 #[.pointer (some ⟨b, 0, none⟩), .string ⟨#[63, 68, 79]⟩, V] w fun e w' => e = .returned (.int .i64 1) ∧ ∃ v' q, Wk w' b v' [⟨false, here, 7, 0⟩] here y T (.string ⟨#[68, 79]⟩) (.int .i64 y) (.int .i64 0) (.slice (some ⟨q, 0, none⟩) 1 1) ∧ w.heap.size ≤ q ∧ Bk w' q 3 #[.int .i64 here] ∧ Below b w w' := by
  have hL := lay_any h (Nat.zero_le _) 7 0 y hy
  have hlt := Lib.hid h.bk.lt
  replace hL := Lib.hid hL
  clear h
  go_enter Try.func20, Try.ntmps20
  go_wp2_with (go_at_call 28; refine hL.out.mono ?_; rintro e w1 ⟨rfl, v', hW, hB⟩; have c1 := hW.bk.cell 1; have c2 := hW.bk.cell 2; have c3 := hW.bk.cell 3; have c4 := hW.bk.cell 4; have c5 := hW.bk.cell 5; have c6 := hW.bk.cell 6; have c7 := hW.bk.cell 7; have d4 := hW.bk.free 4; have d5 := hW.bk.free 5; have d6 := hW.bk.free 6; have d7 := hW.bk.free 7; simp at c1 c2 c3 c4 c5 c6 c7; replace hW := Lib.hid hW; replace hB := Lib.hid hB)
  have hW2 := (hW.out.past (.cells #[.int .i64 here] 3))
  have k1 : (w1.alloc (.cells #[.int .i64 here] 3)).cell? ⟨b, 1, none⟩ = some (.int .i64 here) := hW2.bk.cell 1
  have k2 : (w1.alloc (.cells #[.int .i64 here] 3)).cell? ⟨b, 2, none⟩ = some (.int .i64 y) := hW2.bk.cell 2
  have k4 : (w1.alloc (.cells #[.int .i64 here] 3)).cell? ⟨b, 4, none⟩ = some n0 := hW2.bk.cell 4
  have k5 : (w1.alloc (.cells #[.int .i64 here] 3)).cell? ⟨b, 5, none⟩ = some n1 := hW2.bk.cell 5
  have k6 : (w1.alloc (.cells #[.int .i64 here] 3)).cell? ⟨b, 6, none⟩ = some n2 := hW2.bk.cell 6
  have k7 : (w1.alloc (.cells #[.int .i64 here] 3)).cell? ⟨b, 7, none⟩ = some n3 := hW2.bk.cell 7
  have j4 := hW2.bk.free 4; have j5 := hW2.bk.free 5; have j6 := hW2.bk.free 6; have j7 := hW2.bk.free 7
  have hq := Bk.fresh w1 3 #[.int .i64 here]
  have hB2 : Below b w (w1.alloc (.cells #[.int .i64 here] 3)) := hB.out.alloc (by have := hW.out.bk.lt; omega) _
  have hne : w1.heap.size ≠ b := by have := hW.out.bk.lt; omega
  have hz : w.heap.size ≤ w1.heap.size := hB.out.size
  have hz2 : w1.heap.size = w1.heap.size := rfl
  generalize hqe : w1.heap.size = q at hq hne hz hz2
  replace hW2 := Lib.hid hW2
  replace hB2 := Lib.hid hB2
  replace hq := Lib.hid hq
  replace hne := Lib.hid hne
  replace hz := Lib.hid hz
  replace hqe := Lib.hid hqe
  clear hL hz2
  go_region_law (fail)
  all_goals (go_wp2_with (fail))
  all_goals go_returns
  all_goals (
    rw [hqe.out]
    refine ⟨rfl, v', q, (hW2.out.draw).next _ _ _ _, hz.out, ?_, below_set4 hB2.out.drew (Nat.le_refl _) _ _ _ _⟩
    exact ((((hq.out.draw.other (p := ⟨b, 4, none⟩) hne.out _).other (p := ⟨b, 5, none⟩) hne.out _).other (p := ⟨b, 6, none⟩) hne.out _).other (p := ⟨b, 7, none⟩) hne.out _))
end
end Go.Proofs.Ytmfffaocmboelaa
