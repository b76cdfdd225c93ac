import Derived.Test.YtoaiiimnfgbcaaaImE
import Derived.StillTailTactics
namespace Go.Proofs.Ytoaiiimnfgbcaaa
open Go.RowKit
set_option linter.unusedVariables false
set_option linter.unusedSimpArgs false
/-- may a size be? -/
def sizeOk (n least most : Int) : Prop := least ≤ n ∧ n ≤ most ∧ n % 8 = 0
theorem tmod_zero (n : Int) : n.tmod 8 = 0 ↔ n % 8 = 0 := by
  rw [← Int.dvd_iff_tmod_eq_zero, Int.dvd_iff_emod_eq_zero]
theorem size_bad (n least most : Int) (h : ¬ sizeOk n least most) : n < least ∨ (least ≤ n ∧ most < n) ∨ (least ≤ n ∧ n ≤ most ∧ (n.tmod 8 != 0) = true) := by
  unfold sizeOk at h
  by_cases h1 : n < least
  · exact .inl h1
  · by_cases h2 : most < n
    · exact .inr (.inl ⟨by omega, h2⟩)
    · refine .inr (.inr ⟨by omega, by omega, ?_⟩)
      rw [bne_iff_ne]
      intro e
      exact h ⟨by omega, by omega, (tmod_zero n).1 e⟩
theorem tmod_even (n : Int) (h : n % 8 = 0) : (n.tmod 8 != 0) = false := by
  rw [bne_eq_false_iff_eq]; exact (tmod_zero n).2 h
theorem idx_six (a b c d e f : Int) (w : World) : (Instr.index 76 (.agg #[.int .i64 a, .int .i64 b, .int .i64 c, .int .i64 d, .int .i64 e, .int .i64 f]) (.int .i64 0)).run Try.prog w = .ok (.int .i64 a) w ∧
    (Instr.index 76 (.agg #[.int .i64 a, .int .i64 b, .int .i64 c, .int .i64 d, .int .i64 e, .int .i64 f]) (.int .i64 1)).run Try.prog w = .ok (.int .i64 b) w ∧
    (Instr.index 76 (.agg #[.int .i64 a, .int .i64 b, .int .i64 c, .int .i64 d, .int .i64 e, .int .i64 f]) (.int .i64 2)).run Try.prog w = .ok (.int .i64 c) w ∧
    (Instr.index 76 (.agg #[.int .i64 a, .int .i64 b, .int .i64 c, .int .i64 d, .int .i64 e, .int .i64 f]) (.int .i64 3)).run Try.prog w = .ok (.int .i64 d) w ∧
    (Instr.index 76 (.agg #[.int .i64 a, .int .i64 b, .int .i64 c, .int .i64 d, .int .i64 e, .int .i64 f]) (.int .i64 4)).run Try.prog w = .ok (.int .i64 e) w ∧
    (Instr.index 76 (.agg #[.int .i64 a, .int .i64 b, .int .i64 c, .int .i64 d, .int .i64 e, .int .i64 f]) (.int .i64 5)).run Try.prog w = .ok (.int .i64 f) w :=
  ⟨by kernel_rfl, by kernel_rfl, by kernel_rfl, by kernel_rfl, by kernel_rfl, by kernel_rfl⟩
def layV (k s u d r : Int) : Value := .agg #[.int .i64 k, .int .i64 s, .int .i64 u, .int .i64 d, .int .i64 r]
def layOk (k s u d r : Int) : Prop := sizeOk k 16384 65536 ∧ sizeOk s 0 4096 ∧ sizeOk u 256 65536 ∧ sizeOk d 64 4096 ∧ sizeOk r 64 4096
theorem lay_ok {L : Lay} (h : layOk L.k L.s L.u L.d L.r) : L.ok := by
  unfold layOk sizeOk at h
  unfold Lay.ok
  omega
def NewPost (k s u d r : Int) (w : World) (e : Ending) (w' : World) : Prop :=
  (layOk k s u d r → ∃ (L : Lay) (p b : Nat), L.k = k ∧ L.s = s ∧ L.u = u ∧ L.d = d ∧ L.r = r ∧ e = .returned (.tuple #[.pointer (some ⟨p, 0, none⟩), .int .i64 0]) ∧ Im w' p b L (List.replicate L.b6 0) false false ∧ w.heap.size ≤ p ∧ w.heap.size ≤ b ∧ Below w.heap.size w w') ∧
  (¬ layOk k s u d r → e = .returned (.tuple #[.pointer none, .int .i64 1]) ∧ Below w.heap.size w w')
theorem new_bad {k s u d r : Int} {w w' : World} (h : ¬ layOk k s u d r) (hb : Below w.heap.size w w') : NewPost k s u d r w (.returned (.tuple #[.pointer none, .int .i64 1])) w' :=
  ⟨fun g => absurd g h, fun _ => ⟨rfl, hb⟩⟩
set_option maxRecDepth 100000 in
set_option maxHeartbeats 16000000 in
theorem new_any (k s u d r : Int) (w : World) :
    Calls Try.prog 9 #[layV k s u d r] w fun e w' => NewPost k s u d r w e w' := by
  obtain ⟨ti, hti, htz, hts, htb⟩ := info_parts info_u8
  unfold layV
  go_enter Try.func9, Try.ntmps9
  go_wp2_with (fail)
  have hl := Bk.fresh ((w.alloc (.cells #[.int .i64 k, .int .i64 s, .int .i64 u, .int .i64 d, .int .i64 r] 24)).alloc (.cells #[.int .i64 0, .int .i64 k, .int .i64 s, .int .i64 u, .int .i64 d, .int .i64 r] 76)) 76 #[.int .i64 0, .int .i64 16384, .int .i64 0, .int .i64 256, .int .i64 64, .int .i64 64]
  have hm := Bk.fresh (((w.alloc (.cells #[.int .i64 k, .int .i64 s, .int .i64 u, .int .i64 d, .int .i64 r] 24)).alloc (.cells #[.int .i64 0, .int .i64 k, .int .i64 s, .int .i64 u, .int .i64 d, .int .i64 r] 76)).alloc (.cells #[.int .i64 0, .int .i64 16384, .int .i64 0, .int .i64 256, .int .i64 64, .int .i64 64] 76)) 76 #[.int .i64 0, .int .i64 65536, .int .i64 4096, .int .i64 65536, .int .i64 4096, .int .i64 4096]
  have hi := Bk.fresh ((((w.alloc (.cells #[.int .i64 k, .int .i64 s, .int .i64 u, .int .i64 d, .int .i64 r] 24)).alloc (.cells #[.int .i64 0, .int .i64 k, .int .i64 s, .int .i64 u, .int .i64 d, .int .i64 r] 76)).alloc (.cells #[.int .i64 0, .int .i64 16384, .int .i64 0, .int .i64 256, .int .i64 64, .int .i64 64] 76)).alloc (.cells #[.int .i64 0, .int .i64 65536, .int .i64 4096, .int .i64 65536, .int .i64 4096, .int .i64 4096] 76)) 79 #[.int .i64 k, .int .i64 s, .int .i64 u, .int .i64 d, .int .i64 r, .int .i64 0, .int .i64 0, .int .i64 0, .int .i64 0, .int .i64 0, .int .i64 0, .int .i64 0, .slice none 0 0, .bool false, .bool false]
  replace hl := (hl.past (.cells #[.int .i64 0, .int .i64 65536, .int .i64 4096, .int .i64 65536, .int .i64 4096, .int .i64 4096] 76)).past (.cells #[.int .i64 k, .int .i64 s, .int .i64 u, .int .i64 d, .int .i64 r, .int .i64 0, .int .i64 0, .int .i64 0, .int .i64 0, .int .i64 0, .int .i64 0, .int .i64 0, .slice none 0 0, .bool false, .bool false] 79)
  replace hm := hm.past (.cells #[.int .i64 k, .int .i64 s, .int .i64 u, .int .i64 d, .int .i64 r, .int .i64 0, .int .i64 0, .int .i64 0, .int .i64 0, .int .i64 0, .int .i64 0, .int .i64 0, .slice none 0 0, .bool false, .bool false] 79)
  have hB := (((((Below.refl w.heap.size w).alloc (Nat.le_refl _) (.cells #[.int .i64 k, .int .i64 s, .int .i64 u, .int .i64 d, .int .i64 r] 24)).alloc (by simp) (.cells #[.int .i64 0, .int .i64 k, .int .i64 s, .int .i64 u, .int .i64 d, .int .i64 r] 76)).alloc (by simp; omega) (.cells #[.int .i64 0, .int .i64 16384, .int .i64 0, .int .i64 256, .int .i64 64, .int .i64 64] 76)).alloc (by simp; omega) (.cells #[.int .i64 0, .int .i64 65536, .int .i64 4096, .int .i64 65536, .int .i64 4096, .int .i64 4096] 76)).alloc (by simp; omega) (.cells #[.int .i64 k, .int .i64 s, .int .i64 u, .int .i64 d, .int .i64 r, .int .i64 0, .int .i64 0, .int .i64 0, .int .i64 0, .int .i64 0, .int .i64 0, .int .i64 0, .slice none 0 0, .bool false, .bool false] 79)
  simp only [World.size_alloc] at hl hm hi
  obtain ⟨V, hV⟩ : ∃ V, (((((w.alloc (.cells #[.int .i64 k, .int .i64 s, .int .i64 u, .int .i64 d, .int .i64 r] 24)).alloc (.cells #[.int .i64 0, .int .i64 k, .int .i64 s, .int .i64 u, .int .i64 d, .int .i64 r] 76)).alloc (.cells #[.int .i64 0, .int .i64 16384, .int .i64 0, .int .i64 256, .int .i64 64, .int .i64 64] 76)).alloc (.cells #[.int .i64 0, .int .i64 65536, .int .i64 4096, .int .i64 65536, .int .i64 4096, .int .i64 4096] 76)).alloc (.cells #[.int .i64 k, .int .i64 s, .int .i64 u, .int .i64 d, .int .i64 r, .int .i64 0, .int .i64 0, .int .i64 0, .int .i64 0, .int .i64 0, .int .i64 0, .int .i64 0, .slice none 0 0, .bool false, .bool false] 79)) = V := ⟨_, rfl⟩
  rw [hV] at hl hm hi hB ⊢
  clear hV
  have hle : w.heap.size ≤ w.heap.size + 1 + 1 + 1 + 1 := by omega
  obtain ⟨pl, hpl⟩ : ∃ pl, w.heap.size + 1 + 1 = pl := ⟨_, rfl⟩
  rw [hpl] at hl hm hi hle ⊢
  obtain ⟨ps, hps⟩ : ∃ ps, pl + 1 = ps := ⟨_, rfl⟩
  rw [hps] at hm hi hle ⊢
  obtain ⟨pm, hpm⟩ : ∃ pm, ps + 1 = pm := ⟨_, rfl⟩
  rw [hpm] at hi hle ⊢
  have n1 : pl ≠ pm := by omega
  have n2 : ps ≠ pm := by omega
  clear hpl hps hpm
  replace hle := Lib.hid hle
  have x0 := fun w => (idx_six 0 k s u d r w).1
  have x1 := fun w => (idx_six 0 k s u d r w).2.1
  have x2 := fun w => (idx_six 0 k s u d r w).2.2.1
  have x3 := fun w => (idx_six 0 k s u d r w).2.2.2.1
  have x4 := fun w => (idx_six 0 k s u d r w).2.2.2.2.1
  have x5 := fun w => (idx_six 0 k s u d r w).2.2.2.2.2
  refine wp_loop_rounds 7 ?_
  have a0 := hl.cell 0
  have a1 := hm.cell 0
  have a2 := hi.cell 5
  have a3 := hi.free 6
  have a4 := hi.cell 6
  simp at a0 a1 a2 a4
  have e1 : IntKind.i64.wrap (0 + 1) = 1 := by decide
  have e2 : IntKind.i64.wrap 1 = 1 := by decide
  have e3 : IntKind.i64.wrap ((0 : Int) + 0) = 0 := by rw [IntKind.wrap_i64]; omega
  have e4 : IntKind.i64.wrap (0 : Int) = 0 := by rw [IntKind.wrap_i64]; omega
  have a5 : ({ heap := V.heap, tape := V.tape, drawn := V.drawn + 1, os := V.os, output := V.output } : World).cell? ⟨pm, 5, none⟩ = some (.int .i64 0) := a2
  replace hl := Lib.hid hl
  replace hm := Lib.hid hm
  replace hi := Lib.hid hi
  rw [rounds_succ]
  go_wp2_with (fail)
  go_still_tail 14, (by kernel_rfl)
  change wpList _ _ _ _ _ V.drew
  replace hl := Lib.hid (hl.out.draw)
  replace hm := Lib.hid (hm.out.draw)
  replace hi := Lib.hid (hi.out.draw)
  replace hB := hB.drew
  replace a3 : V.drew.frozen? ⟨pm, 6, none⟩ = false := a3
  replace a4 : V.drew.cell? ⟨pm, 6, none⟩ = _ := a4
  clear a0 a1 a2 a5 e1 e2 e3 e4
  obtain ⟨U, hU⟩ : ∃ U, V.drew = U := ⟨_, rfl⟩
  rw [hU] at hl hm hi hB a3 a4 ⊢
  clear hU
  go_wp2_with (fail)
  replace hl := hl.out.other (p := ⟨pm, 6, none⟩) n1 (.int .i64 0)
  replace hm := hm.out.other (p := ⟨pm, 6, none⟩) n2 (.int .i64 0)
  replace hi := hi.out.put 6 (.int .i64 0)
  replace hB := hB.setCell (p := ⟨pm, 6, none⟩) (by show w.heap.size ≤ pm; exact hle.out) (.int .i64 0)
  simp at hi
  clear a3 a4 V
  obtain ⟨V, hV⟩ : ∃ V, U.setCell ⟨pm, 6, none⟩ (.int .i64 0) = V := ⟨_, rfl⟩
  rw [hV] at hl hm hi hB ⊢
  clear hV
  by_cases g1 : sizeOk k 16384 65536
  rotate_left
  · replace g1 := size_bad _ _ _ g1
    have hbad : ¬ layOk k s u d r := fun h => by
      unfold layOk sizeOk at h
      rcases g1 with q | ⟨q, q2⟩ | ⟨q, q2, q3⟩
      · omega
      · omega
      · rw [tmod_even k (by omega)] at q3; cases q3
    replace hbad := Lib.hid hbad
    have a0 := hl.cell 1
    have a1 := hm.cell 1
    simp at a0 a1
    replace hl := Lib.hid hl
    replace hm := Lib.hid hm
    replace hi := Lib.hid hi
    replace g1 : k < 16384 ∨ (16384 ≤ k ∧ 65536 < k) ∨ (16384 ≤ k ∧ k ≤ 65536 ∧ (k % 8 != 0) = true) := by
      rcases g1 with q | ⟨q, q2⟩ | ⟨q, q2, q3⟩
      · exact .inl q
      · exact .inr (.inl ⟨q, q2⟩)
      · refine .inr (.inr ⟨q, q2, ?_⟩)
        rw [bne_iff_ne] at q3 ⊢
        exact fun e => q3 ((tmod_zero k).2 e)
    rcases g1 with q | ⟨q, q2⟩ | ⟨q, q2, q3⟩
    all_goals (
      rw [rounds_succ]
      go_wp2_with (fail)
      go_returns
      exact new_bad hbad.out hB)
  have t1 : (k % 8 != 0) = false := bne_eq_false_iff_eq.2 g1.2.2
  obtain ⟨k, hk⟩ := Int.eq_ofNat_of_zero_le (show (0 : Int) ≤ k by have := g1.1; omega)
  subst hk
  obtain ⟨q1, r1, v1⟩ := g1
  have z1 : ¬ (k : Int) < 16384 := by omega
  have y1_ : ¬ 65536 < (k : Int) := by omega
  have a0 := hl.cell 1
  have a1 := hm.cell 1
  have a2 := hi.cell 6
  have a3 := hi.free 7
  have a4 := hi.cell 7
  simp at a0 a1 a2 a4
  have e1 : IntKind.i64.wrap (1 + 1) = 2 := by decide
  have e2 : IntKind.i64.wrap 2 = 2 := by decide
  have e3 : IntKind.i64.wrap ((0 : Int) + k) = k := by rw [IntKind.wrap_i64]; omega
  have e4 : IntKind.i64.wrap (k : Int) = k := by rw [IntKind.wrap_i64]; omega
  have a5 : ({ heap := V.heap, tape := V.tape, drawn := V.drawn + 1, os := V.os, output := V.output } : World).cell? ⟨pm, 6, none⟩ = some (.int .i64 0) := a2
  replace hl := Lib.hid hl
  replace hm := Lib.hid hm
  replace hi := Lib.hid hi
  rw [rounds_succ]
  go_wp2_with (fail)
  go_still_tail 14, (by kernel_rfl)
  change wpList _ _ _ _ _ V.drew
  replace hl := Lib.hid (hl.out.draw)
  replace hm := Lib.hid (hm.out.draw)
  replace hi := Lib.hid (hi.out.draw)
  replace hB := hB.drew
  replace a3 : V.drew.frozen? ⟨pm, 7, none⟩ = false := a3
  replace a4 : V.drew.cell? ⟨pm, 7, none⟩ = _ := a4
  clear a0 a1 a2 a5 e1 e2 e3 e4
  obtain ⟨U, hU⟩ : ∃ U, V.drew = U := ⟨_, rfl⟩
  rw [hU] at hl hm hi hB a3 a4 ⊢
  clear hU
  go_wp2_with (fail)
  replace hl := hl.out.other (p := ⟨pm, 7, none⟩) n1 (.int .i64 k)
  replace hm := hm.out.other (p := ⟨pm, 7, none⟩) n2 (.int .i64 k)
  replace hi := hi.out.put 7 (.int .i64 k)
  replace hB := hB.setCell (p := ⟨pm, 7, none⟩) (by show w.heap.size ≤ pm; exact hle.out) (.int .i64 k)
  simp at hi
  clear a3 a4 V
  obtain ⟨V, hV⟩ : ∃ V, U.setCell ⟨pm, 7, none⟩ (.int .i64 k) = V := ⟨_, rfl⟩
  rw [hV] at hl hm hi hB ⊢
  clear hV
  by_cases g2 : sizeOk s 0 4096
  rotate_left
  · replace g2 := size_bad _ _ _ g2
    have hbad : ¬ layOk k s u d r := fun h => by
      unfold layOk sizeOk at h
      rcases g2 with q | ⟨q, q2⟩ | ⟨q, q2, q3⟩
      · omega
      · omega
      · rw [tmod_even s (by omega)] at q3; cases q3
    replace hbad := Lib.hid hbad
    have a0 := hl.cell 2
    have a1 := hm.cell 2
    simp at a0 a1
    replace hl := Lib.hid hl
    replace hm := Lib.hid hm
    replace hi := Lib.hid hi
    replace g2 : s < 0 ∨ (0 ≤ s ∧ 4096 < s) ∨ (0 ≤ s ∧ s ≤ 4096 ∧ (s % 8 != 0) = true) := by
      rcases g2 with q | ⟨q, q2⟩ | ⟨q, q2, q3⟩
      · exact .inl q
      · exact .inr (.inl ⟨q, q2⟩)
      · refine .inr (.inr ⟨q, q2, ?_⟩)
        rw [bne_iff_ne] at q3 ⊢
        exact fun e => q3 ((tmod_zero s).2 e)
    rcases g2 with q | ⟨q, q2⟩ | ⟨q, q2, q3⟩
    all_goals (
      rw [rounds_succ]
      go_wp2_with (fail)
      go_returns
      exact new_bad hbad.out hB)
  have t2 : (s % 8 != 0) = false := bne_eq_false_iff_eq.2 g2.2.2
  obtain ⟨s, hs⟩ := Int.eq_ofNat_of_zero_le (show (0 : Int) ≤ s by have := g2.1; omega)
  subst hs
  obtain ⟨q2, r2, v2⟩ := g2
  have z2 : ¬ (s : Int) < 0 := by omega
  have y2_ : ¬ 4096 < (s : Int) := by omega
  obtain ⟨y3, hy3⟩ : ∃ y : Nat, (k : Int) + s = (y : Int) := ⟨k + s, by omega⟩
  have hx3 : (k : Int) + s ≤ 143360 := by omega
  have a0 := hl.cell 2
  have a1 := hm.cell 2
  have a2 := hi.cell 7
  have a3 := hi.free 8
  have a4 := hi.cell 8
  simp at a0 a1 a2 a4
  have e1 : IntKind.i64.wrap (2 + 1) = 3 := by decide
  have e2 : IntKind.i64.wrap 3 = 3 := by decide
  have e3 : IntKind.i64.wrap ((k : Int) + s) = y3 := by rw [IntKind.wrap_i64]; omega
  have e4 : IntKind.i64.wrap (y3 : Int) = y3 := by rw [IntKind.wrap_i64]; omega
  have a5 : ({ heap := V.heap, tape := V.tape, drawn := V.drawn + 1, os := V.os, output := V.output } : World).cell? ⟨pm, 7, none⟩ = some (.int .i64 k) := a2
  replace hl := Lib.hid hl
  replace hm := Lib.hid hm
  replace hi := Lib.hid hi
  rw [rounds_succ]
  go_wp2_with (fail)
  go_still_tail 14, (by kernel_rfl)
  change wpList _ _ _ _ _ V.drew
  replace hl := Lib.hid (hl.out.draw)
  replace hm := Lib.hid (hm.out.draw)
  replace hi := Lib.hid (hi.out.draw)
  replace hB := hB.drew
  replace a3 : V.drew.frozen? ⟨pm, 8, none⟩ = false := a3
  replace a4 : V.drew.cell? ⟨pm, 8, none⟩ = _ := a4
  clear a0 a1 a2 a5 e1 e2 e3 e4
  obtain ⟨U, hU⟩ : ∃ U, V.drew = U := ⟨_, rfl⟩
  rw [hU] at hl hm hi hB a3 a4 ⊢
  clear hU
  go_wp2_with (fail)
  replace hl := hl.out.other (p := ⟨pm, 8, none⟩) n1 (.int .i64 y3)
  replace hm := hm.out.other (p := ⟨pm, 8, none⟩) n2 (.int .i64 y3)
  replace hi := hi.out.put 8 (.int .i64 y3)
  replace hB := hB.setCell (p := ⟨pm, 8, none⟩) (by show w.heap.size ≤ pm; exact hle.out) (.int .i64 y3)
  simp at hi
  clear a3 a4 V
  obtain ⟨V, hV⟩ : ∃ V, U.setCell ⟨pm, 8, none⟩ (.int .i64 y3) = V := ⟨_, rfl⟩
  rw [hV] at hl hm hi hB ⊢
  clear hV
  by_cases g3 : sizeOk u 256 65536
  rotate_left
  · replace g3 := size_bad _ _ _ g3
    have hbad : ¬ layOk k s u d r := fun h => by
      unfold layOk sizeOk at h
      rcases g3 with q | ⟨q, q2⟩ | ⟨q, q2, q3⟩
      · omega
      · omega
      · rw [tmod_even u (by omega)] at q3; cases q3
    replace hbad := Lib.hid hbad
    have a0 := hl.cell 3
    have a1 := hm.cell 3
    simp at a0 a1
    replace hl := Lib.hid hl
    replace hm := Lib.hid hm
    replace hi := Lib.hid hi
    replace g3 : u < 256 ∨ (256 ≤ u ∧ 65536 < u) ∨ (256 ≤ u ∧ u ≤ 65536 ∧ (u % 8 != 0) = true) := by
      rcases g3 with q | ⟨q, q2⟩ | ⟨q, q2, q3⟩
      · exact .inl q
      · exact .inr (.inl ⟨q, q2⟩)
      · refine .inr (.inr ⟨q, q2, ?_⟩)
        rw [bne_iff_ne] at q3 ⊢
        exact fun e => q3 ((tmod_zero u).2 e)
    rcases g3 with q | ⟨q, q2⟩ | ⟨q, q2, q3⟩
    all_goals (
      rw [rounds_succ]
      go_wp2_with (fail)
      go_returns
      exact new_bad hbad.out hB)
  have t3 : (u % 8 != 0) = false := bne_eq_false_iff_eq.2 g3.2.2
  obtain ⟨u, hu⟩ := Int.eq_ofNat_of_zero_le (show (0 : Int) ≤ u by have := g3.1; omega)
  subst hu
  obtain ⟨q3, r3, v3⟩ := g3
  have z3 : ¬ (u : Int) < 256 := by omega
  have y3_ : ¬ 65536 < (u : Int) := by omega
  obtain ⟨y4, hy4⟩ : ∃ y : Nat, (y3 : Int) + u = (y : Int) := ⟨y3 + u, by omega⟩
  have hx4 : (y3 : Int) + u ≤ 143360 := by omega
  have a0 := hl.cell 3
  have a1 := hm.cell 3
  have a2 := hi.cell 8
  have a3 := hi.free 9
  have a4 := hi.cell 9
  simp at a0 a1 a2 a4
  have e1 : IntKind.i64.wrap (3 + 1) = 4 := by decide
  have e2 : IntKind.i64.wrap 4 = 4 := by decide
  have e3 : IntKind.i64.wrap ((y3 : Int) + u) = y4 := by rw [IntKind.wrap_i64]; omega
  have e4 : IntKind.i64.wrap (y4 : Int) = y4 := by rw [IntKind.wrap_i64]; omega
  have a5 : ({ heap := V.heap, tape := V.tape, drawn := V.drawn + 1, os := V.os, output := V.output } : World).cell? ⟨pm, 8, none⟩ = some (.int .i64 y3) := a2
  replace hl := Lib.hid hl
  replace hm := Lib.hid hm
  replace hi := Lib.hid hi
  rw [rounds_succ]
  go_wp2_with (fail)
  go_still_tail 14, (by kernel_rfl)
  change wpList _ _ _ _ _ V.drew
  replace hl := Lib.hid (hl.out.draw)
  replace hm := Lib.hid (hm.out.draw)
  replace hi := Lib.hid (hi.out.draw)
  replace hB := hB.drew
  replace a3 : V.drew.frozen? ⟨pm, 9, none⟩ = false := a3
  replace a4 : V.drew.cell? ⟨pm, 9, none⟩ = _ := a4
  clear a0 a1 a2 a5 e1 e2 e3 e4
  obtain ⟨U, hU⟩ : ∃ U, V.drew = U := ⟨_, rfl⟩
  rw [hU] at hl hm hi hB a3 a4 ⊢
  clear hU
  go_wp2_with (fail)
  replace hl := hl.out.other (p := ⟨pm, 9, none⟩) n1 (.int .i64 y4)
  replace hm := hm.out.other (p := ⟨pm, 9, none⟩) n2 (.int .i64 y4)
  replace hi := hi.out.put 9 (.int .i64 y4)
  replace hB := hB.setCell (p := ⟨pm, 9, none⟩) (by show w.heap.size ≤ pm; exact hle.out) (.int .i64 y4)
  simp at hi
  clear a3 a4 V
  obtain ⟨V, hV⟩ : ∃ V, U.setCell ⟨pm, 9, none⟩ (.int .i64 y4) = V := ⟨_, rfl⟩
  rw [hV] at hl hm hi hB ⊢
  clear hV
  by_cases g4 : sizeOk d 64 4096
  rotate_left
  · replace g4 := size_bad _ _ _ g4
    have hbad : ¬ layOk k s u d r := fun h => by
      unfold layOk sizeOk at h
      rcases g4 with q | ⟨q, q2⟩ | ⟨q, q2, q3⟩
      · omega
      · omega
      · rw [tmod_even d (by omega)] at q3; cases q3
    replace hbad := Lib.hid hbad
    have a0 := hl.cell 4
    have a1 := hm.cell 4
    simp at a0 a1
    replace hl := Lib.hid hl
    replace hm := Lib.hid hm
    replace hi := Lib.hid hi
    replace g4 : d < 64 ∨ (64 ≤ d ∧ 4096 < d) ∨ (64 ≤ d ∧ d ≤ 4096 ∧ (d % 8 != 0) = true) := by
      rcases g4 with q | ⟨q, q2⟩ | ⟨q, q2, q3⟩
      · exact .inl q
      · exact .inr (.inl ⟨q, q2⟩)
      · refine .inr (.inr ⟨q, q2, ?_⟩)
        rw [bne_iff_ne] at q3 ⊢
        exact fun e => q3 ((tmod_zero d).2 e)
    rcases g4 with q | ⟨q, q2⟩ | ⟨q, q2, q3⟩
    all_goals (
      rw [rounds_succ]
      go_wp2_with (fail)
      go_returns
      exact new_bad hbad.out hB)
  have t4 : (d % 8 != 0) = false := bne_eq_false_iff_eq.2 g4.2.2
  obtain ⟨d, hd⟩ := Int.eq_ofNat_of_zero_le (show (0 : Int) ≤ d by have := g4.1; omega)
  subst hd
  obtain ⟨q4, r4, v4⟩ := g4
  have z4 : ¬ (d : Int) < 64 := by omega
  have y4_ : ¬ 4096 < (d : Int) := by omega
  obtain ⟨y5, hy5⟩ : ∃ y : Nat, (y4 : Int) + d = (y : Int) := ⟨y4 + d, by omega⟩
  have hx5 : (y4 : Int) + d ≤ 143360 := by omega
  have a0 := hl.cell 4
  have a1 := hm.cell 4
  have a2 := hi.cell 9
  have a3 := hi.free 10
  have a4 := hi.cell 10
  simp at a0 a1 a2 a4
  have e1 : IntKind.i64.wrap (4 + 1) = 5 := by decide
  have e2 : IntKind.i64.wrap 5 = 5 := by decide
  have e3 : IntKind.i64.wrap ((y4 : Int) + d) = y5 := by rw [IntKind.wrap_i64]; omega
  have e4 : IntKind.i64.wrap (y5 : Int) = y5 := by rw [IntKind.wrap_i64]; omega
  have a5 : ({ heap := V.heap, tape := V.tape, drawn := V.drawn + 1, os := V.os, output := V.output } : World).cell? ⟨pm, 9, none⟩ = some (.int .i64 y4) := a2
  replace hl := Lib.hid hl
  replace hm := Lib.hid hm
  replace hi := Lib.hid hi
  rw [rounds_succ]
  go_wp2_with (fail)
  go_still_tail 14, (by kernel_rfl)
  change wpList _ _ _ _ _ V.drew
  replace hl := Lib.hid (hl.out.draw)
  replace hm := Lib.hid (hm.out.draw)
  replace hi := Lib.hid (hi.out.draw)
  replace hB := hB.drew
  replace a3 : V.drew.frozen? ⟨pm, 10, none⟩ = false := a3
  replace a4 : V.drew.cell? ⟨pm, 10, none⟩ = _ := a4
  clear a0 a1 a2 a5 e1 e2 e3 e4
  obtain ⟨U, hU⟩ : ∃ U, V.drew = U := ⟨_, rfl⟩
  rw [hU] at hl hm hi hB a3 a4 ⊢
  clear hU
  go_wp2_with (fail)
  replace hl := hl.out.other (p := ⟨pm, 10, none⟩) n1 (.int .i64 y5)
  replace hm := hm.out.other (p := ⟨pm, 10, none⟩) n2 (.int .i64 y5)
  replace hi := hi.out.put 10 (.int .i64 y5)
  replace hB := hB.setCell (p := ⟨pm, 10, none⟩) (by show w.heap.size ≤ pm; exact hle.out) (.int .i64 y5)
  simp at hi
  clear a3 a4 V
  obtain ⟨V, hV⟩ : ∃ V, U.setCell ⟨pm, 10, none⟩ (.int .i64 y5) = V := ⟨_, rfl⟩
  rw [hV] at hl hm hi hB ⊢
  clear hV
  by_cases g5 : sizeOk r 64 4096
  rotate_left
  · replace g5 := size_bad _ _ _ g5
    have hbad : ¬ layOk k s u d r := fun h => by
      unfold layOk sizeOk at h
      rcases g5 with q | ⟨q, q2⟩ | ⟨q, q2, q3⟩
      · omega
      · omega
      · rw [tmod_even r (by omega)] at q3; cases q3
    replace hbad := Lib.hid hbad
    have a0 := hl.cell 5
    have a1 := hm.cell 5
    simp at a0 a1
    replace hl := Lib.hid hl
    replace hm := Lib.hid hm
    replace hi := Lib.hid hi
    replace g5 : r < 64 ∨ (64 ≤ r ∧ 4096 < r) ∨ (64 ≤ r ∧ r ≤ 4096 ∧ (r % 8 != 0) = true) := by
      rcases g5 with q | ⟨q, q2⟩ | ⟨q, q2, q3⟩
      · exact .inl q
      · exact .inr (.inl ⟨q, q2⟩)
      · refine .inr (.inr ⟨q, q2, ?_⟩)
        rw [bne_iff_ne] at q3 ⊢
        exact fun e => q3 ((tmod_zero r).2 e)
    rcases g5 with q | ⟨q, q2⟩ | ⟨q, q2, q3⟩
    all_goals (
      rw [rounds_succ]
      go_wp2_with (fail)
      go_returns
      exact new_bad hbad.out hB)
  have t5 : (r % 8 != 0) = false := bne_eq_false_iff_eq.2 g5.2.2
  obtain ⟨r, hr⟩ := Int.eq_ofNat_of_zero_le (show (0 : Int) ≤ r by have := g5.1; omega)
  subst hr
  obtain ⟨q5, r5, v5⟩ := g5
  have z5 : ¬ (r : Int) < 64 := by omega
  have y5_ : ¬ 4096 < (r : Int) := by omega
  obtain ⟨y6, hy6⟩ : ∃ y : Nat, (y5 : Int) + r = (y : Int) := ⟨y5 + r, by omega⟩
  have hx6 : (y5 : Int) + r ≤ 143360 := by omega
  have a0 := hl.cell 5
  have a1 := hm.cell 5
  have a2 := hi.cell 10
  have a3 := hi.free 11
  have a4 := hi.cell 11
  simp at a0 a1 a2 a4
  have e1 : IntKind.i64.wrap (5 + 1) = 6 := by decide
  have e2 : IntKind.i64.wrap 6 = 6 := by decide
  have e3 : IntKind.i64.wrap ((y5 : Int) + r) = y6 := by rw [IntKind.wrap_i64]; omega
  have e4 : IntKind.i64.wrap (y6 : Int) = y6 := by rw [IntKind.wrap_i64]; omega
  have a5 : ({ heap := V.heap, tape := V.tape, drawn := V.drawn + 1, os := V.os, output := V.output } : World).cell? ⟨pm, 10, none⟩ = some (.int .i64 y5) := a2
  replace hl := Lib.hid hl
  replace hm := Lib.hid hm
  replace hi := Lib.hid hi
  rw [rounds_succ]
  go_wp2_with (fail)
  go_still_tail 14, (by kernel_rfl)
  change wpList _ _ _ _ _ V.drew
  replace hl := Lib.hid (hl.out.draw)
  replace hm := Lib.hid (hm.out.draw)
  replace hi := Lib.hid (hi.out.draw)
  replace hB := hB.drew
  replace a3 : V.drew.frozen? ⟨pm, 11, none⟩ = false := a3
  replace a4 : V.drew.cell? ⟨pm, 11, none⟩ = _ := a4
  clear a0 a1 a2 a5 e1 e2 e3 e4
  obtain ⟨U, hU⟩ : ∃ U, V.drew = U := ⟨_, rfl⟩
  rw [hU] at hl hm hi hB a3 a4 ⊢
  clear hU
  go_wp2_with (fail)
  replace hl := hl.out.other (p := ⟨pm, 11, none⟩) n1 (.int .i64 y6)
  replace hm := hm.out.other (p := ⟨pm, 11, none⟩) n2 (.int .i64 y6)
  replace hi := hi.out.put 11 (.int .i64 y6)
  replace hB := hB.setCell (p := ⟨pm, 11, none⟩) (by show w.heap.size ≤ pm; exact hle.out) (.int .i64 y6)
  simp at hi
  clear a3 a4 V
  obtain ⟨V, hV⟩ : ∃ V, U.setCell ⟨pm, 11, none⟩ (.int .i64 y6) = V := ⟨_, rfl⟩
  rw [hV] at hl hm hi hB ⊢
  clear hV
  have hmk : ∀ W : World, (Instr.makeSlice 65 (.int .i64 (y6 : Int)) (.int .i64 (y6 : Int))).run Try.prog W = .ok (.slice (some ⟨W.heap.size, 0, none⟩) y6 y6) (W.alloc (.cells (u8s (List.replicate y6 0)).toArray 5)) := fun W => by
    have h := run_make (P := Try.prog) W 65 5 ti (.int .u8 0) Try.underlying65 hti htz .i64 .i64 (y6 : Int) (y6 : Int) (by omega) (Int.le_refl _) (by rw [htb]; omega) (by omega)
    rw [hts, Int.toNat_natCast, made_u8] at h
    exact h
  have a2 := hi.cell 11
  have a3 := hi.free 12
  have a4 := hi.cell 12
  have hlt := hi.lt
  simp at a2 a4
  clear hl hm
  replace hi := Lib.hid hi
  rw [rounds_succ]
  go_wp2_with (fail)
  go_returns
  have hok : layOk k s u d r := ⟨⟨q1, r1, v1⟩, ⟨q2, r2, v2⟩, ⟨q3, r3, v3⟩, ⟨q4, r4, v4⟩, ⟨q5, r5, v5⟩⟩
  obtain rfl : y3 = k + s := by omega
  obtain rfl : y4 = k + s + u := by omega
  obtain rfl : y5 = k + s + u + d := by omega
  obtain rfl : y6 = k + s + u + d + r := by omega
  have hi2 : Bk _ pm 79 (imgV ⟨k, s, u, d, r⟩ V.heap.size false false) := (hi.out.put 12 (.slice (some ⟨V.heap.size, 0, none⟩) (k + s + u + d + r) (k + s + u + d + r))).past (.cells (u8s (List.replicate (k + s + u + d + r) 0)).toArray 5)
  have hb2 := Bk.fresh (V.setCell ⟨pm, 12, none⟩ (.slice (some ⟨V.heap.size, 0, none⟩) (k + s + u + d + r) (k + s + u + d + r))) 5 (u8s (List.replicate (k + s + u + d + r) 0)).toArray
  rw [World.size_setCell] at hb2
  have hB2 := hB.setCell (p := ⟨pm, 12, none⟩) hle.out (.slice (some ⟨V.heap.size, 0, none⟩) (k + s + u + d + r) (k + s + u + d + r))
  refine ⟨fun _ => ⟨⟨k, s, u, d, r⟩, pm, V.heap.size, rfl, rfl, rfl, rfl, rfl, rfl, ⟨lay_ok hok, hi2, hb2, by rw [List.length_replicate]⟩, hle.out, hB.size, ?_⟩, fun h => absurd hok h⟩
  exact hB2.alloc hB2.size _
end Go.Proofs.Ytoaiiimnfgbcaaa
