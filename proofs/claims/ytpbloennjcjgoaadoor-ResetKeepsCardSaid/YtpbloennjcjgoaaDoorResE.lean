import Derived.Test.YtpbloennjcjgoaaDoorResD
import Derived.Stop.BytesEq
namespace Go.Proofs.YtpbloennjcjgoaaDoor
open Go.RowKit
set_option linter.unusedVariables false
set_option linter.unusedSimpArgs false
theorem array_at (a : Addr) (n c : Nat) (hn : 4 ≤ n) (w : World) : (Instr.arrayAt 80 (.slice (some a) n c)).run Tryd.prog w = .ok (.pointer (some a)) w := by
  have h : ¬ n < 4 := by omega
  unfold Instr.arrayAt
  simp [run_underlying Tryd.underlying80, h]
theorem neq_arr (a b c d : UInt8) (w : World) : (binOp .neq 80 (.agg #[.int .u8 (a.toNat : Int), .int .u8 (b.toNat : Int), .int .u8 (c.toNat : Int), .int .u8 (d.toNat : Int)]) (.agg #[.int .u8 80, .int .u8 82, .int .u8 83, .int .u8 49])).run Tryd.prog w = .ok (.bool (!([a, b, c, d] == mark4))) w := by
  have hsz : ∀ w, (sizeOf 5).run Tryd.prog w = .ok 1 w := fun w => by kernel_rfl
  have h := run_equalIn_bytes (P := Tryd.prog) w 9998 80 5 4 Tryd.underlying80 Tryd.underlying5 hsz [a, b, c, d] mark4 rfl rfl
  rw [run_neq_struct]
  show ((Op.equalIn 10000 80 (.agg (([a, b, c, d] : List UInt8).map Extern.Stop.cell).toArray) (.agg (mark4.map Extern.Stop.cell).toArray)).run Tryd.prog w).andThen _ = _
  rw [h]
  rfl
/-- the number at a place of a text -/
def rdN (s : ByteArray) (k : Nat) : Nat := horF (fun j => s.data.toList.getD (k + j) 0) 8
def zeroV : Value := stateV ByteArray.empty ByteArray.empty ByteArray.empty 0 0
/-- is it a state's text? -/
def POk (s : ByteArray) : Prop := 52 ≤ s.size ∧ s.data.toList.take 4 = mark4 ∧ (rdN s 4 ≤ 65536 ∧ rdN s 12 ≤ 4096 ∧ rdN s 20 ≤ 4096) ∧ s.size = 52 + rdN s 4 + rdN s 12 + rdN s 20 ∧ sumL (s.data.toList.take (s.size - 8)) = rdN s (s.size - 8)
def parsedV (s : ByteArray) : Value := stateV (s.extract 44 (44 + rdN s 4)) (s.extract (44 + rdN s 4) (44 + rdN s 4 + rdN s 12)) (s.extract (44 + rdN s 4 + rdN s 12) (44 + rdN s 4 + rdN s 12 + rdN s 20)) (wrap64 (rdN s 28)) (wrap64 (rdN s 36))
theorem take4 (s : ByteArray) (h : 4 ≤ s.data.toList.length) : s.data.toList.take 4 = [s.data.toList[0], s.data.toList[1], s.data.toList[2], s.data.toList[3]] := by
  rw [List.take_succ_eq_append_getElem (by omega), List.take_succ_eq_append_getElem (by omega), List.take_succ_eq_append_getElem (by omega), List.take_succ_eq_append_getElem (by omega)]
  simp
set_option maxHeartbeats 2000000 in
set_option maxRecDepth 100000 in
theorem parse_short (s : ByteArray) (w : World) (hM : Mark w) (hs : s.size ≤ 9223372036854775807) (h52 : s.size < 52) :
    Calls Tryd.prog 13 #[.string s] w fun e w' => e = .returned (.tuple #[zeroV, .int .i64 4]) ∧ Below w.heap.size w w' := by
  have i52 : (s.size : Int) < 52 := by omega
  go_enter Tryd.func13, Tryd.ntmps13
  go_wp2_with (fail)
  have hK := Bk.fresh w 23 #[.string ⟨#[]⟩, .string ⟨#[]⟩, .string ⟨#[]⟩, .int .i64 0, .int .i64 0]
  have hBe := (Below.refl w.heap.size w).alloc (Nat.le_refl _) (.cells #[.string ⟨#[]⟩, .string ⟨#[]⟩, .string ⟨#[]⟩, .int .i64 0, .int .i64 0] 23)
  have hM1 := hM.kept hBe hM.1
  obtain ⟨w1, hw1⟩ : ∃ w1, w.alloc (.cells #[.string ⟨#[]⟩, .string ⟨#[]⟩, .string ⟨#[]⟩, .int .i64 0, .int .i64 0] 23) = w1 := ⟨_, rfl⟩
  rw [hw1] at hK hBe hM1 ⊢
  clear hw1 hM
  obtain ⟨p2, hp2⟩ : ∃ p2, w.heap.size = p2 := ⟨_, rfl⟩
  rw [hp2] at hK hBe ⊢
  obtain ⟨W, cap, hconv, hT, hO, hcap⟩ := bytes_made w1 s
  have hK2 := hK.kept hO hK.lt
  have hBe2 := hBe.trans (hO.mono (by rw [← hp2]; exact hBe.size))
  have hM2 := hM1.kept hO hM1.1
  have hpb := hK.lt
  obtain ⟨b, hb⟩ : ∃ b, w1.heap.size = b := ⟨_, rfl⟩
  rw [hb] at hconv hT hO hpb
  clear hK hBe hM1 hO
  have hT := Lib.hid hT
  have m0 : W.cell? ⟨0, 0, none⟩ = some (.int .u8 80) := hM2.2.1
  have m1 := hM2.2.2.1
  have m2 := hM2.2.2.2.1
  have m3 := hM2.2.2.2.2
  have q0 : W.cell? ⟨p2, 0, none⟩ = some (.string ⟨#[]⟩) := hK2.cell 0
  have q1 : W.cell? ⟨p2, 1, none⟩ = some (.string ⟨#[]⟩) := hK2.cell 1
  have q2 : W.cell? ⟨p2, 2, none⟩ = some (.string ⟨#[]⟩) := hK2.cell 2
  have q3 : W.cell? ⟨p2, 3, none⟩ = some (.int .i64 0) := hK2.cell 3
  have q4 : W.cell? ⟨p2, 4, none⟩ = some (.int .i64 0) := hK2.cell 4
  have f0 := hK2.free 0
  have f1 := hK2.free 1
  have f2 := hK2.free 2
  have f3 := hK2.free 3
  have f4 := hK2.free 4
  have hp2 := Lib.hid hp2
  have hK2 := Lib.hid hK2
  have hBe2 := Lib.hid hBe2
  rw [hconv]
  clear hconv
  go_wp2_with (fail)
  go_quiet (fail)
  go_wp2_with (fail)
  have hK3 := ((((((hK2.out.draws nq).put 0 (.string ⟨#[]⟩)).put 1 (.string ⟨#[]⟩)).put 2 (.string ⟨#[]⟩)).put 3 (.int .i64 0)).put 4 (.int .i64 0))
  have hB3 := ((((((hBe2.out.trans ⟨rfl, rfl, rfl, Nat.le_refl _, fun _ _ => rfl⟩ : Below p2 w (W.drewN nq)).setCell (p := ⟨p2, 0, none⟩) (Nat.le_refl _) (.string ⟨#[]⟩)).setCell (p := ⟨p2, 1, none⟩) (Nat.le_refl _) (.string ⟨#[]⟩)).setCell (p := ⟨p2, 2, none⟩) (Nat.le_refl _) (.string ⟨#[]⟩)).setCell (p := ⟨p2, 3, none⟩) (Nat.le_refl _) (.int .i64 0)).setCell (p := ⟨p2, 4, none⟩) (Nat.le_refl _) (.int .i64 0))
  obtain ⟨w9, hw9⟩ : ∃ w9, ((((((W.drewN nq).setCell ⟨p2, 0, none⟩ (.string ⟨#[]⟩)).setCell ⟨p2, 1, none⟩ (.string ⟨#[]⟩)).setCell ⟨p2, 2, none⟩ (.string ⟨#[]⟩)).setCell ⟨p2, 3, none⟩ (.int .i64 0)).setCell ⟨p2, 4, none⟩ (.int .i64 0)) = w9 := ⟨_, rfl⟩
  rw [hw9] at hK3 hB3 ⊢
  have r0 : w9.cell? ⟨p2, 0, none⟩ = some (.string ⟨#[]⟩) := hK3.cell 0
  have r1 : w9.cell? ⟨p2, 1, none⟩ = some (.string ⟨#[]⟩) := hK3.cell 1
  have r2 : w9.cell? ⟨p2, 2, none⟩ = some (.string ⟨#[]⟩) := hK3.cell 2
  have r3 : w9.cell? ⟨p2, 3, none⟩ = some (.int .i64 0) := hK3.cell 3
  have r4 : w9.cell? ⟨p2, 4, none⟩ = some (.int .i64 0) := hK3.cell 4
  refine bodyPost_ret (by simp [results, Tryd.results13, go_sem, r0, r1, r2, r3, r4]; rfl) rfl ?_
  exact ⟨rfl, by rw [hp2.out]; exact hB3⟩
set_option maxHeartbeats 2000000 in
set_option maxRecDepth 100000 in
theorem parse_mark (s : ByteArray) (w : World) (hM : Mark w) (hs : s.size ≤ 9223372036854775807) (h52 : 52 ≤ s.size) (hmk : ¬ s.data.toList.take 4 = mark4) :
    Calls Tryd.prog 13 #[.string s] w fun e w' => e = .returned (.tuple #[zeroV, .int .i64 4]) ∧ Below w.heap.size w w' := by
  have i52 : ¬ (s.size : Int) < 52 := by omega
  go_enter Tryd.func13, Tryd.ntmps13
  go_wp2_with (fail)
  have hK := Bk.fresh w 23 #[.string ⟨#[]⟩, .string ⟨#[]⟩, .string ⟨#[]⟩, .int .i64 0, .int .i64 0]
  have hBe := (Below.refl w.heap.size w).alloc (Nat.le_refl _) (.cells #[.string ⟨#[]⟩, .string ⟨#[]⟩, .string ⟨#[]⟩, .int .i64 0, .int .i64 0] 23)
  have hM1 := hM.kept hBe hM.1
  obtain ⟨w1, hw1⟩ : ∃ w1, w.alloc (.cells #[.string ⟨#[]⟩, .string ⟨#[]⟩, .string ⟨#[]⟩, .int .i64 0, .int .i64 0] 23) = w1 := ⟨_, rfl⟩
  rw [hw1] at hK hBe hM1 ⊢
  clear hw1 hM
  obtain ⟨p2, hp2⟩ : ∃ p2, w.heap.size = p2 := ⟨_, rfl⟩
  rw [hp2] at hK hBe ⊢
  obtain ⟨W, cap, hconv, hT, hO, hcap⟩ := bytes_made w1 s
  have hK2 := hK.kept hO hK.lt
  have hBe2 := hBe.trans (hO.mono (by rw [← hp2]; exact hBe.size))
  have hM2 := hM1.kept hO hM1.1
  have hpb := hK.lt
  obtain ⟨b, hb⟩ : ∃ b, w1.heap.size = b := ⟨_, rfl⟩
  rw [hb] at hconv hT hO hpb
  clear hK hBe hM1 hO
  have hT := Lib.hid hT
  have m0 : W.cell? ⟨0, 0, none⟩ = some (.int .u8 80) := hM2.2.1
  have m1 := hM2.2.2.1
  have m2 := hM2.2.2.2.1
  have m3 := hM2.2.2.2.2
  have q0 : W.cell? ⟨p2, 0, none⟩ = some (.string ⟨#[]⟩) := hK2.cell 0
  have q1 : W.cell? ⟨p2, 1, none⟩ = some (.string ⟨#[]⟩) := hK2.cell 1
  have q2 : W.cell? ⟨p2, 2, none⟩ = some (.string ⟨#[]⟩) := hK2.cell 2
  have q3 : W.cell? ⟨p2, 3, none⟩ = some (.int .i64 0) := hK2.cell 3
  have q4 : W.cell? ⟨p2, 4, none⟩ = some (.int .i64 0) := hK2.cell 4
  have f0 := hK2.free 0
  have f1 := hK2.free 1
  have f2 := hK2.free 2
  have f3 := hK2.free 3
  have f4 := hK2.free 4
  have hp2 := Lib.hid hp2
  have hK2 := Lib.hid hK2
  have hBe2 := Lib.hid hBe2
  have hl := data_size s
  have c0 := (hT.out.2 0 (by omega)).1
  have c1 := (hT.out.2 1 (by omega)).1
  have c2 := (hT.out.2 2 (by omega)).1
  have c3 := (hT.out.2 3 (by omega)).1
  have ht4 := take4 s (by omega)
  have hl := Lib.hid hl
  generalize s.data.toList[0] = a0 at *
  generalize s.data.toList[1] = a1 at *
  generalize s.data.toList[2] = a2 at *
  generalize s.data.toList[3] = a3 at *
  have hat := array_at ⟨b, 0, none⟩ s.size cap (by omega)
  have hne := neq_arr a0 a1 a2 a3
  rw [ht4] at hmk
  have hmk2 : ([a0, a1, a2, a3] == mark4) = false := by simpa using hmk
  have hmk := Lib.hid hmk
  rw [hconv]
  clear hconv
  go_wp2_with (fail)
  go_quiet (fail)
  go_wp2_with (fail)
  have hK3 := ((((((hK2.out.draws nq).put 0 (.string ⟨#[]⟩)).put 1 (.string ⟨#[]⟩)).put 2 (.string ⟨#[]⟩)).put 3 (.int .i64 0)).put 4 (.int .i64 0))
  have hB3 := ((((((hBe2.out.trans ⟨rfl, rfl, rfl, Nat.le_refl _, fun _ _ => rfl⟩ : Below p2 w (W.drewN nq)).setCell (p := ⟨p2, 0, none⟩) (Nat.le_refl _) (.string ⟨#[]⟩)).setCell (p := ⟨p2, 1, none⟩) (Nat.le_refl _) (.string ⟨#[]⟩)).setCell (p := ⟨p2, 2, none⟩) (Nat.le_refl _) (.string ⟨#[]⟩)).setCell (p := ⟨p2, 3, none⟩) (Nat.le_refl _) (.int .i64 0)).setCell (p := ⟨p2, 4, none⟩) (Nat.le_refl _) (.int .i64 0))
  obtain ⟨w9, hw9⟩ : ∃ w9, ((((((W.drewN nq).setCell ⟨p2, 0, none⟩ (.string ⟨#[]⟩)).setCell ⟨p2, 1, none⟩ (.string ⟨#[]⟩)).setCell ⟨p2, 2, none⟩ (.string ⟨#[]⟩)).setCell ⟨p2, 3, none⟩ (.int .i64 0)).setCell ⟨p2, 4, none⟩ (.int .i64 0)) = w9 := ⟨_, rfl⟩
  rw [hw9] at hK3 hB3 ⊢
  have r0 : w9.cell? ⟨p2, 0, none⟩ = some (.string ⟨#[]⟩) := hK3.cell 0
  have r1 : w9.cell? ⟨p2, 1, none⟩ = some (.string ⟨#[]⟩) := hK3.cell 1
  have r2 : w9.cell? ⟨p2, 2, none⟩ = some (.string ⟨#[]⟩) := hK3.cell 2
  have r3 : w9.cell? ⟨p2, 3, none⟩ = some (.int .i64 0) := hK3.cell 3
  have r4 : w9.cell? ⟨p2, 4, none⟩ = some (.int .i64 0) := hK3.cell 4
  refine bodyPost_ret (by simp [results, Tryd.results13, go_sem, r0, r1, r2, r3, r4]; rfl) rfl ?_
  exact ⟨rfl, by rw [hp2.out]; exact hB3⟩
end Go.Proofs.YtpbloennjcjgoaaDoor
