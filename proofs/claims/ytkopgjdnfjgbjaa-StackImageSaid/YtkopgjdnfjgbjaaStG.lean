import Derived.Test.YtkopgjdnfjgbjaaStP
import Derived.Test.YtkopgjdnfjgbjaaImF
import Derived.Test.YtkopgjdnfjgbjaaPick
namespace Go.Proofs.Ytkopgjdnfjgbjaa
open Go.RowKit
set_option linter.unusedVariables false
set_option linter.unusedSimpArgs false
/-! law 4's layout -/
def layOf4 (d r : Int) : Lay := ⟨16384, 0, 256, 64 + 8 * pickN d 20, 64 + 8 * pickN r 20⟩
theorem layOf4_ok (d r : Int) : (layOf4 d r).ok := by
  have h4 := pickN_lt d 20 (by decide)
  have h5 := pickN_lt r 20 (by decide)
  refine ⟨⟨Nat.le_refl _, by show 16384 ≤ 65536; decide, by show 16384 % 8 = 0; decide⟩, ⟨Nat.zero_le _, rfl⟩, ⟨Nat.le_refl _, by show 256 ≤ 65536; decide, by show 256 % 8 = 0; decide⟩, ⟨?_, ?_, ?_⟩, ⟨?_, ?_, ?_⟩⟩
  · show 64 ≤ 64 + 8 * pickN d 20; omega
  · show 64 + 8 * pickN d 20 ≤ 4096; omega
  · show (64 + 8 * pickN d 20) % 8 = 0; omega
  · show 64 ≤ 64 + 8 * pickN r 20; omega
  · show 64 + 8 * pickN r 20 ≤ 4096; omega
  · show (64 + 8 * pickN r 20) % 8 = 0; omega
def LV (L : Lay) : Value := layV L.k L.s L.u L.d L.r
def inI (x : Int) : Prop := -9223372036854775808 ≤ x ∧ x ≤ 9223372036854775807
set_option maxRecDepth 100000 in
set_option maxHeartbeats 4000000 in
theorem layout4_any (d e : Int) (w : World) (hd : inI d) (he : inI e) :
    Calls Try.prog 9 #[.int .i64 d, .int .i64 e] w fun e' w' => e' = .returned (LV (layOf4 d e)) ∧ Below w.heap.size w w' := by
  have q4 := fun W => pick_any d 20 W hd.1 hd.2 (by decide) (by decide)
  have q5 := fun W => pick_any e 20 W he.1 he.2 (by decide) (by decide)
  have h4 := pickN_lt d 20 (by decide)
  have h5 := pickN_lt e 20 (by decide)
  have hL : LV (layOf4 d e) = .agg #[.int .i64 16384, .int .i64 0, .int .i64 256, .int .i64 ((64 + 8 * pickN d 20 : Nat) : Int), .int .i64 ((64 + 8 * pickN e 20 : Nat) : Int)] := rfl
  rw [hL]
  clear hL hd he
  simp only [show (20 : Int).toNat = 20 from rfl] at q4 q5
  generalize pickN d 20 = x4 at *
  generalize pickN e 20 = x5 at *
  obtain ⟨e4, e4', e5, e5'⟩ : wrap64 (8 * (x4 : Int)) = ((8 * x4 : Nat) : Int) ∧ wrap64 (64 + ((8 * x4 : Nat) : Int)) = ((64 + 8 * x4 : Nat) : Int) ∧ wrap64 (8 * (x5 : Int)) = ((8 * x5 : Nat) : Int) ∧ wrap64 (64 + ((8 * x5 : Nat) : Int)) = ((64 + 8 * x5 : Nat) : Int) := by
    unfold wrap64
    refine ⟨?_, ?_, ?_, ?_⟩ <;> omega
  obtain ⟨y4, hy4⟩ : ∃ y, 8 * x4 = y := ⟨_, rfl⟩
  obtain ⟨y5, hy5⟩ : ∃ y, 8 * x5 = y := ⟨_, rfl⟩
  rw [hy4] at e4 e4' ⊢
  rw [hy5] at e5 e5' ⊢
  clear hy4 hy5 h4 h5
  obtain ⟨z4, hz4⟩ : ∃ z, 64 + y4 = z := ⟨_, rfl⟩
  obtain ⟨z5, hz5⟩ : ∃ z, 64 + y5 = z := ⟨_, rfl⟩
  rw [hz4] at e4' ⊢
  rw [hz5] at e5' ⊢
  clear hz4 hz5
  replace q4 := Lib.hid q4
  replace q5 := Lib.hid q5
  go_enter Try.func9, Try.ntmps9
  go_wp2_with (fail)
  have hR := Bk.fresh w 24 #[.int .i64 0, .int .i64 0, .int .i64 0, .int .i64 0, .int .i64 0]
  have hB := (Below.refl w.heap.size w).alloc (Nat.le_refl _) (.cells #[.int .i64 0, .int .i64 0, .int .i64 0, .int .i64 0, .int .i64 0] 24)
  obtain ⟨V, hV⟩ : ∃ V, w.alloc (.cells #[.int .i64 0, .int .i64 0, .int .i64 0, .int .i64 0, .int .i64 0] 24) = V := ⟨_, rfl⟩
  rw [hV] at hR hB ⊢
  clear hV
  obtain ⟨q, hq⟩ : ∃ q, w.heap.size = q := ⟨_, rfl⟩
  have hqb : w.heap.size ≤ q := Nat.le_of_eq hq
  rw [hq] at hR ⊢
  have c0 := hR.cell 0
  have c1 := hR.cell 1
  have c2 := hR.cell 2
  have c3 := hR.cell 3
  have c4 := hR.cell 4
  have f0 := hR.free 0
  have f1 := hR.free 1
  have f2 := hR.free 2
  have f3 := hR.free 3
  have f4 := hR.free 4
  simp at c0 c1 c2 c3 c4
  replace hR := Lib.hid hR
  replace hq := Lib.hid hq
  refine (q4.out _).mono ?_
  rintro e w1 ⟨rfl, hw1⟩
  have hw1 := hw1.symm
  subst hw1
  go_wp2_with (fail)
  refine (q5.out _).mono ?_
  rintro e w1 ⟨rfl, hw1⟩
  have hw1 := hw1.symm
  subst hw1
  go_wp2_with (fail)
  have hR3 := (((((hR.out.put 0 (.int .i64 16384)).put 1 (.int .i64 0)).put 2 (.int .i64 256)).put 3 (.int .i64 (z4 : Int))).put 4 (.int .i64 (z5 : Int)))
  have hB3 := (((((hB.setCell (p := ⟨q, 0, none⟩) hqb (.int .i64 16384)).setCell (p := ⟨q, 1, none⟩) hqb (.int .i64 0)).setCell (p := ⟨q, 2, none⟩) hqb (.int .i64 256)).setCell (p := ⟨q, 3, none⟩) hqb (.int .i64 (z4 : Int))).setCell (p := ⟨q, 4, none⟩) hqb (.int .i64 (z5 : Int)))
  obtain ⟨w9, hw9⟩ : ∃ w9, (((((V.setCell ⟨q, 0, none⟩ (.int .i64 16384)).setCell ⟨q, 1, none⟩ (.int .i64 0)).setCell ⟨q, 2, none⟩ (.int .i64 256)).setCell ⟨q, 3, none⟩ (.int .i64 (z4 : Int))).setCell ⟨q, 4, none⟩ (.int .i64 (z5 : Int))) = w9 := ⟨_, rfl⟩
  rw [hw9] at hR3 hB3 ⊢
  have r0 : w9.cell? ⟨q, 0, none⟩ = some (.int .i64 16384) := hR3.cell 0
  have r1 : w9.cell? ⟨q, 1, none⟩ = some (.int .i64 0) := hR3.cell 1
  have r2 : w9.cell? ⟨q, 2, none⟩ = some (.int .i64 256) := hR3.cell 2
  have r3 : w9.cell? ⟨q, 3, none⟩ = some (.int .i64 (z4 : Int)) := hR3.cell 3
  have r4 : w9.cell? ⟨q, 4, none⟩ = some (.int .i64 (z5 : Int)) := hR3.cell 4
  refine bodyPost_ret (by simp [results, Try.results9, go_sem, r0, r1, r2, r3, r4]; rfl) rfl ?_
  exact ⟨rfl, hB3⟩
end Go.Proofs.Ytkopgjdnfjgbjaa
