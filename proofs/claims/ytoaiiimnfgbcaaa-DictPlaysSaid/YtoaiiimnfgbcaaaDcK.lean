import Derived.Test.YtoaiiimnfgbcaaaDcJ
import Derived.Test.YtoaiiimnfgbcaaaPick
namespace Go.Proofs.Ytoaiiimnfgbcaaa
open Go.RowKit
set_option linter.unusedVariables false
set_option linter.unusedSimpArgs false
/-! law's layout; DictBegins -/
def layOf8 (n : Int) : Lay := ⟨16384, 8 * pickN n 3, 256 + 8 * pickN n 30, 64, 64⟩
theorem layOf8_ok (n : Int) : (layOf8 n).ok := by
  have h3 := pickN_lt n 3 (by decide)
  have h4 := pickN_lt n 30 (by decide)
  refine ⟨⟨Nat.le_refl _, by show 16384 ≤ 65536; decide, by show 16384 % 8 = 0; decide⟩, ⟨?_, ?_⟩, ⟨?_, ?_, ?_⟩, ⟨Nat.le_refl _, by show 64 ≤ 4096; decide, by show 64 % 8 = 0; decide⟩, ⟨Nat.le_refl _, by show 64 ≤ 4096; decide, by show 64 % 8 = 0; decide⟩⟩
  · show 8 * pickN n 3 ≤ 4096; omega
  · show (8 * pickN n 3) % 8 = 0; omega
  · show 256 ≤ 256 + 8 * pickN n 30; omega
  · show 256 + 8 * pickN n 30 ≤ 65536; omega
  · show (256 + 8 * pickN n 30) % 8 = 0; omega
def LV (L : Lay) : Value := layV L.k L.s L.u L.d L.r
def inI (x : Int) : Prop := -9223372036854775808 ≤ x ∧ x ≤ 9223372036854775807
set_option maxRecDepth 100000 in
set_option maxHeartbeats 4000000 in
theorem layout8_any (d : Int) (w : World) (hd : inI d) :
    Calls Try.prog 8 #[.int .i64 d] w fun e' w' => e' = .returned (LV (layOf8 d)) ∧ Below w.heap.size w w' := by
  have q4 := fun W => pick_any d 3 W hd.1 hd.2 (by decide) (by decide)
  have q5 := fun W => pick_any d 30 W hd.1 hd.2 (by decide) (by decide)
  have h4 := pickN_lt d 3 (by decide)
  have h5 := pickN_lt d 30 (by decide)
  have hL : LV (layOf8 d) = .agg #[.int .i64 16384, .int .i64 ((8 * pickN d 3 : Nat) : Int), .int .i64 ((256 + 8 * pickN d 30 : Nat) : Int), .int .i64 64, .int .i64 64] := rfl
  rw [hL]
  clear hL hd
  simp only [show (3 : Int).toNat = 3 from rfl, show (30 : Int).toNat = 30 from rfl] at q4 q5
  generalize pickN d 3 = x4 at *
  generalize pickN d 30 = x5 at *
  obtain ⟨e4, e5, e5'⟩ : wrap64 (8 * (x4 : Int)) = ((8 * x4 : Nat) : Int) ∧ wrap64 (8 * (x5 : Int)) = ((8 * x5 : Nat) : Int) ∧ wrap64 (256 + ((8 * x5 : Nat) : Int)) = ((256 + 8 * x5 : Nat) : Int) := by
    unfold wrap64
    refine ⟨?_, ?_, ?_⟩ <;> omega
  obtain ⟨z4, hz4⟩ : ∃ y, 8 * x4 = y := ⟨_, rfl⟩
  obtain ⟨y5, hy5⟩ : ∃ y, 8 * x5 = y := ⟨_, rfl⟩
  rw [hz4] at e4 ⊢
  rw [hy5] at e5 e5' ⊢
  clear hz4 hy5 h4 h5
  obtain ⟨z5, hz5⟩ : ∃ z, 256 + y5 = z := ⟨_, rfl⟩
  rw [hz5] at e5' ⊢
  clear hz5
  replace q4 := Lib.hid q4
  replace q5 := Lib.hid q5
  go_enter Try.func8, Try.ntmps8
  go_wp2_with (fail)
  have hR := Bk.fresh w 24 #[.int .i64 0, .int .i64 0, .int .i64 0, .int .i64 0, .int .i64 0]
  have hB := (Below.refl w.heap.size w).alloc (Nat.le_refl _) (.cells #[.int .i64 0, .int .i64 0, .int .i64 0, .int .i64 0, .int .i64 0] 24)
  obtain ⟨V, hV⟩ : ∃ V, w.alloc (.cells #[.int .i64 0, .int .i64 0, .int .i64 0, .int .i64 0, .int .i64 0] 24) = V := ⟨_, rfl⟩
  rw [hV] at hR hB ⊢
  clear hV
  obtain ⟨q, hq⟩ : ∃ q, w.heap.size = q := ⟨_, rfl⟩
  have hqb : w.heap.size ≤ q := Nat.le_of_eq hq
  rw [hq] at hR ⊢
  have c0 := hR.cell 0
  have c1 := hR.cell 1
  have c2 := hR.cell 2
  have c3 := hR.cell 3
  have c4 := hR.cell 4
  have f0 := hR.free 0
  have f1 := hR.free 1
  have f2 := hR.free 2
  have f3 := hR.free 3
  have f4 := hR.free 4
  simp at c0 c1 c2 c3 c4
  replace hR := Lib.hid hR
  replace hq := Lib.hid hq
  refine (q4.out _).mono ?_
  rintro e w1 ⟨rfl, hw1⟩
  have hw1 := hw1.symm
  subst hw1
  go_wp2_with (fail)
  refine (q5.out _).mono ?_
  rintro e w1 ⟨rfl, hw1⟩
  have hw1 := hw1.symm
  subst hw1
  go_wp2_with (fail)
  have hR3 := (((((hR.out.put 0 (.int .i64 16384)).put 1 (.int .i64 (z4 : Int))).put 2 (.int .i64 (z5 : Int))).put 3 (.int .i64 64)).put 4 (.int .i64 64))
  have hB3 := (((((hB.setCell (p := ⟨q, 0, none⟩) hqb (.int .i64 16384)).setCell (p := ⟨q, 1, none⟩) hqb (.int .i64 (z4 : Int))).setCell (p := ⟨q, 2, none⟩) hqb (.int .i64 (z5 : Int))).setCell (p := ⟨q, 3, none⟩) hqb (.int .i64 64)).setCell (p := ⟨q, 4, none⟩) hqb (.int .i64 64))
  obtain ⟨w9, hw9⟩ : ∃ w9, (((((V.setCell ⟨q, 0, none⟩ (.int .i64 16384)).setCell ⟨q, 1, none⟩ (.int .i64 (z4 : Int))).setCell ⟨q, 2, none⟩ (.int .i64 (z5 : Int))).setCell ⟨q, 3, none⟩ (.int .i64 64)).setCell ⟨q, 4, none⟩ (.int .i64 64)) = w9 := ⟨_, rfl⟩
  rw [hw9] at hR3 hB3 ⊢
  have r0 : w9.cell? ⟨q, 0, none⟩ = some (.int .i64 16384) := hR3.cell 0
  have r1 : w9.cell? ⟨q, 1, none⟩ = some (.int .i64 (z4 : Int)) := hR3.cell 1
  have r2 : w9.cell? ⟨q, 2, none⟩ = some (.int .i64 (z5 : Int)) := hR3.cell 2
  have r3 : w9.cell? ⟨q, 3, none⟩ = some (.int .i64 64) := hR3.cell 3
  have r4 : w9.cell? ⟨q, 4, none⟩ = some (.int .i64 64) := hR3.cell 4
  refine bodyPost_ret (by simp [results, Try.results8, go_sem, r0, r1, r2, r3, r4]; rfl) rfl ?_
  exact ⟨rfl, hB3⟩
theorem layOf8_layOk (d : Int) : layOk (layOf8 d).k (layOf8 d).s (layOf8 d).u (layOf8 d).d (layOf8 d).r := by
  have h := layOf8_ok d
  obtain ⟨⟨a1, a2, a3⟩, ⟨b1, b2⟩, ⟨c1, c2, c3⟩, ⟨d1, d2, d3⟩, ⟨e1, e2, e3⟩⟩ := h
  unfold layOk sizeOk
  omega
theorem new8 (d : Int) (w : World) : Calls Try.prog 9 #[LV (layOf8 d)] w fun e w' => ∃ (p b : Nat), e = .returned (.tuple #[.pointer (some ⟨p, 0, none⟩), .int .i64 0]) ∧ Im w' p b (layOf8 d) (List.replicate (layOf8 d).b6 0) false false ∧ w.heap.size ≤ p ∧ w.heap.size ≤ b ∧ Below w.heap.size w w' := by
  refine (new_any _ _ _ _ _ w).mono fun e w' h => ?_
  obtain ⟨L, p, b, h1, h2, h3, h4, h5, he, hi, h6, h7, h8⟩ := h.1 (layOf8_layOk d)
  have hL : L = layOf8 d := by
    cases L
    simp only at h1 h2 h3 h4 h5
    have e1 := Int.ofNat.inj h1
    have e2 := Int.ofNat.inj h2
    have e3 := Int.ofNat.inj h3
    have e4 := Int.ofNat.inj h4
    have e5 := Int.ofNat.inj h5
    subst e1 e2 e3 e4 e5
    rfl
  subst hL
  exact ⟨p, b, he, hi, h6, h7, h8⟩
end Go.Proofs.Ytoaiiimnfgbcaaa
