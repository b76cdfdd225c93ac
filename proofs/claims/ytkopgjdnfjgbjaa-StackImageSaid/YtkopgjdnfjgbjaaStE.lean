import Derived.Test.YtkopgjdnfjgbjaaStD
namespace Go.Proofs.Ytkopgjdnfjgbjaa
open Go.RowKit
set_option linter.unusedVariables false
set_option linter.unusedSimpArgs false
/-! New -/
def roomOf (L : Lay) (rg : Nat) : Nat := (L.beg (rg + 1) - L.beg rg) / 8
theorem reg_lies {L : Lay} (hL : L.ok) (rg : Nat) (h : rg = 4 ∨ rg = 5) : Reg L rg (L.beg rg) (roomOf L rg) := by
  have m := Lay.mono hL
  have e := Lay.even hL
  refine ⟨h, rfl, ?_⟩
  unfold roomOf
  rcases h with rfl | rfl <;> simp only [Lay.beg] <;> omega
section
variable {w : World} {ip b : Nat} {L : Lay} {B : List UInt8} {o s : Bool}
set_option maxHeartbeats 1000000 in
theorem stnew_no (ip : Nat) (r : Int) (h4 : r ≠ 4) (h5 : r ≠ 5) :
    Calls Try.prog 12 #[.pointer (some ⟨ip, 0, none⟩), .int .i64 r] w fun e w' => e = .returned (.tuple #[.pointer none, .int .i64 1]) ∧ Below w.heap.size w w' := by
  have i4 : (r == 4) = false := by simpa using h4
  have i5 : (r == 5) = false := by simpa using h5
  go_enter Try.func12, Try.ntmps12
  go_wp2_with (fail)
  go_returns
  exact ⟨rfl, (Below.refl _ _).alloc (Nat.le_refl _) _⟩
set_option maxHeartbeats 1000000 in
theorem stnew_data (hi : Im w ip b L B o s) :
    Calls Try.prog 12 #[.pointer (some ⟨ip, 0, none⟩), .int .i64 4] w fun e w' => ∃ q, e = .returned (.tuple #[.pointer (some ⟨q, 0, none⟩), .int .i64 0]) ∧ w.heap.size ≤ q ∧ Stk w' q ip (L.beg 4) (roomOf L 4) 0 1 2 ∧ Below w.heap.size w w' := by
  have hfrom : L.from_ 4 = (L.beg 4 : Int) := rfl
  have hto : L.to_ 4 = (L.beg (4 + 1) : Int) := rfl
  have hup := (reg_lies hi.ok 4 (by decide)).up
  have hev := (reg_lies hi.ok 4 (by decide)).even hi.ok
  obtain ⟨room, hroom⟩ : ∃ room, roomOf L 4 = room := ⟨_, rfl⟩
  rw [hroom] at hup hev ⊢
  obtain ⟨f, hf⟩ : ∃ f, L.beg 4 = f := ⟨_, rfl⟩
  obtain ⟨u, hu⟩ : ∃ u, L.beg (4 + 1) = u := ⟨_, rfl⟩
  rw [hf] at hup hev hfrom ⊢
  rw [hu] at hup hto
  have b1 : f ≤ 143360 := by omega
  have b2 : u ≤ 143360 := by omega
  have b3 : f ≤ u := by omega
  have e0 : (u : Int) - f = 8 * (room : Int) := by omega
  have e1 : ((u : Int) - f).tdiv 8 = (room : Int) := by rw [e0]; exact Int.mul_tdiv_cancel_left _ (by decide)
  have e2 : wrap64 (room : Int) = (room : Int) := by clear e1; unfold wrap64; omega
  clear e0
  clear hroom hf hu hup hev
  go_enter Try.func12, Try.ntmps12
  go_wp2_with (fail)
  obtain ⟨X, hX⟩ : ∃ X, w.alloc (.cells #[.pointer (some ⟨ip, 0, none⟩), .int .i64 0, .int .i64 0, .int .i64 0, .int .i64 1, .int .i64 2] 78) = X := ⟨_, rfl⟩
  have hP : Bk X w.heap.size 78 #[.pointer (some ⟨ip, 0, none⟩), .int .i64 0, .int .i64 0, .int .i64 0, .int .i64 1, .int .i64 2] := by rw [← hX]; exact Bk.fresh w _ _
  have hB : Below w.heap.size w X := by rw [← hX]; exact (Below.refl _ _).alloc (Nat.le_refl _) _
  have hI : Im X ip b L B o s := by rw [← hX]; exact hi.past _
  rw [hX]
  clear hX hi
  obtain ⟨q, hq⟩ : ∃ q, w.heap.size = q := ⟨_, rfl⟩
  rw [hq] at hP hB ⊢
  have hsp := span_any ip b L B o s 4 X hI
  rw [hfrom, hto] at hsp
  refine hsp.mono ?_
  rintro e w1 ⟨rfl, n, hn⟩
  have hP1 := hP.draws n
  rw [← hn] at hP1
  have hB1 : Below q w w1 := by rw [hn]; exact hB.trans ⟨rfl, rfl, rfl, Nat.le_refl _, fun _ _ => rfl⟩
  clear hsp hP hB hI hn
  have d1 := hP1.cell 1
  have d2 := hP1.cell 2
  have g1 := hP1.free 1
  have g2 := hP1.free 2
  simp at d1 d2
  replace hP1 := Lib.hid hP1
  replace hB1 := Lib.hid hB1
  go_wp2_with (fail)
  go_returns
  refine ⟨q, rfl, Nat.le_of_eq hq, ⟨?_, Nat.zero_le _⟩, ?_⟩
  · exact (hP1.out.put 1 (.int .i64 f)).put 2 (.int .i64 room)
  · rw [hq]
    exact (hB1.out.setCell (p := ⟨q, 1, none⟩) (Nat.le_refl _) _).setCell (p := ⟨q, 2, none⟩) (Nat.le_refl _) _
set_option maxHeartbeats 1000000 in
theorem stnew_ret (hi : Im w ip b L B o s) :
    Calls Try.prog 12 #[.pointer (some ⟨ip, 0, none⟩), .int .i64 5] w fun e w' => ∃ q, e = .returned (.tuple #[.pointer (some ⟨q, 0, none⟩), .int .i64 0]) ∧ w.heap.size ≤ q ∧ Stk w' q ip (L.beg 5) (roomOf L 5) 0 3 4 ∧ Below w.heap.size w w' := by
  have hfrom : L.from_ 5 = (L.beg 5 : Int) := rfl
  have hto : L.to_ 5 = (L.beg (5 + 1) : Int) := rfl
  have hup := (reg_lies hi.ok 5 (by decide)).up
  have hev := (reg_lies hi.ok 5 (by decide)).even hi.ok
  obtain ⟨room, hroom⟩ : ∃ room, roomOf L 5 = room := ⟨_, rfl⟩
  rw [hroom] at hup hev ⊢
  obtain ⟨f, hf⟩ : ∃ f, L.beg 5 = f := ⟨_, rfl⟩
  obtain ⟨u, hu⟩ : ∃ u, L.beg (5 + 1) = u := ⟨_, rfl⟩
  rw [hf] at hup hev hfrom ⊢
  rw [hu] at hup hto
  have b1 : f ≤ 143360 := by omega
  have b2 : u ≤ 143360 := by omega
  have b3 : f ≤ u := by omega
  have e0 : (u : Int) - f = 8 * (room : Int) := by omega
  have e1 : ((u : Int) - f).tdiv 8 = (room : Int) := by rw [e0]; exact Int.mul_tdiv_cancel_left _ (by decide)
  have e2 : wrap64 (room : Int) = (room : Int) := by clear e1; unfold wrap64; omega
  clear e0
  clear hroom hf hu hup hev
  go_enter Try.func12, Try.ntmps12
  go_wp2_with (fail)
  obtain ⟨X, hX⟩ : ∃ X, w.alloc (.cells #[.pointer (some ⟨ip, 0, none⟩), .int .i64 0, .int .i64 0, .int .i64 0, .int .i64 3, .int .i64 4] 78) = X := ⟨_, rfl⟩
  have hP : Bk X w.heap.size 78 #[.pointer (some ⟨ip, 0, none⟩), .int .i64 0, .int .i64 0, .int .i64 0, .int .i64 3, .int .i64 4] := by rw [← hX]; exact Bk.fresh w _ _
  have hB : Below w.heap.size w X := by rw [← hX]; exact (Below.refl _ _).alloc (Nat.le_refl _) _
  have hI : Im X ip b L B o s := by rw [← hX]; exact hi.past _
  rw [hX]
  clear hX hi
  obtain ⟨q, hq⟩ : ∃ q, w.heap.size = q := ⟨_, rfl⟩
  rw [hq] at hP hB ⊢
  have hsp := span_any ip b L B o s 5 X hI
  rw [hfrom, hto] at hsp
  refine hsp.mono ?_
  rintro e w1 ⟨rfl, n, hn⟩
  have hP1 := hP.draws n
  rw [← hn] at hP1
  have hB1 : Below q w w1 := by rw [hn]; exact hB.trans ⟨rfl, rfl, rfl, Nat.le_refl _, fun _ _ => rfl⟩
  clear hsp hP hB hI hn
  have d1 := hP1.cell 1
  have d2 := hP1.cell 2
  have g1 := hP1.free 1
  have g2 := hP1.free 2
  simp at d1 d2
  replace hP1 := Lib.hid hP1
  replace hB1 := Lib.hid hB1
  go_wp2_with (fail)
  go_returns
  refine ⟨q, rfl, Nat.le_of_eq hq, ⟨?_, Nat.zero_le _⟩, ?_⟩
  · exact (hP1.out.put 1 (.int .i64 f)).put 2 (.int .i64 room)
  · rw [hq]
    exact (hB1.out.setCell (p := ⟨q, 1, none⟩) (Nat.le_refl _) _).setCell (p := ⟨q, 2, none⟩) (Nat.le_refl _) _
end
end Go.Proofs.Ytkopgjdnfjgbjaa
