import Derived.Test.YtmfffaocmboelaaFwA
namespace Go.Proofs.Ytmfffaocmboelaa
open Go.RowKit
set_option linter.unusedVariables false
set_option linter.unusedSimpArgs false
/-! the names of the control words, and which row a name has -/
def nm : Nat → ByteArray
  | 0 => ⟨#[73, 70]⟩
  | 1 => ⟨#[69, 76, 83, 69]⟩
  | 2 => ⟨#[84, 72, 69, 78]⟩
  | 3 => ⟨#[66, 69, 71, 73, 78]⟩
  | 4 => ⟨#[65, 71, 65, 73, 78]⟩
  | 5 => ⟨#[85, 78, 84, 73, 76]⟩
  | 6 => ⟨#[87, 72, 73, 76, 69]⟩
  | 7 => ⟨#[82, 69, 80, 69, 65, 84]⟩
  | 8 => ⟨#[68, 79]⟩
  | 9 => ⟨#[63, 68, 79]⟩
  | 10 => ⟨#[76, 79, 79, 80]⟩
  | 11 => ⟨#[43, 76, 79, 79, 80]⟩
  | 12 => ⟨#[76, 69, 65, 86, 69]⟩
  | 13 => ⟨#[67, 65, 83, 69]⟩
  | 14 => ⟨#[79, 70]⟩
  | 15 => ⟨#[69, 78, 68, 79, 70]⟩
  | 16 => ⟨#[69, 78, 68, 67, 65, 83, 69]⟩
  | _ => ⟨#[]⟩
def nmV : Array Value := #[.string ⟨#[73, 70]⟩, .string ⟨#[69, 76, 83, 69]⟩, .string ⟨#[84, 72, 69, 78]⟩, .string ⟨#[66, 69, 71, 73, 78]⟩, .string ⟨#[65, 71, 65, 73, 78]⟩, .string ⟨#[85, 78, 84, 73, 76]⟩, .string ⟨#[87, 72, 73, 76, 69]⟩, .string ⟨#[82, 69, 80, 69, 65, 84]⟩, .string ⟨#[68, 79]⟩, .string ⟨#[63, 68, 79]⟩, .string ⟨#[76, 79, 79, 80]⟩, .string ⟨#[43, 76, 79, 79, 80]⟩, .string ⟨#[76, 69, 65, 86, 69]⟩, .string ⟨#[67, 65, 83, 69]⟩, .string ⟨#[79, 70]⟩, .string ⟨#[69, 78, 68, 79, 70]⟩, .string ⟨#[69, 78, 68, 67, 65, 83, 69]⟩]
theorem nmV_at (i : Nat) (h : i < 17) : nmV[i]? = some (.string (nm i)) := by
  have : ∀ n : Fin 17, nmV[n.val]? = some (.string (nm n.val)) := by
    intro n
    match n with
    | ⟨0, _⟩ => rfl
    | ⟨1, _⟩ => rfl
    | ⟨2, _⟩ => rfl
    | ⟨3, _⟩ => rfl
    | ⟨4, _⟩ => rfl
    | ⟨5, _⟩ => rfl
    | ⟨6, _⟩ => rfl
    | ⟨7, _⟩ => rfl
    | ⟨8, _⟩ => rfl
    | ⟨9, _⟩ => rfl
    | ⟨10, _⟩ => rfl
    | ⟨11, _⟩ => rfl
    | ⟨12, _⟩ => rfl
    | ⟨13, _⟩ => rfl
    | ⟨14, _⟩ => rfl
    | ⟨15, _⟩ => rfl
    | ⟨16, _⟩ => rfl
    | ⟨n + 17, h⟩ => exact absurd h (by omega)
  exact this ⟨i, h⟩
theorem nm_size (i : Nat) : (nm i).size ≤ 7 := by
  match i with
  | 0 => decide
  | 1 => decide
  | 2 => decide
  | 3 => decide
  | 4 => decide
  | 5 => decide
  | 6 => decide
  | 7 => decide
  | 8 => decide
  | 9 => decide
  | 10 => decide
  | 11 => decide
  | 12 => decide
  | 13 => decide
  | 14 => decide
  | 15 => decide
  | 16 => decide
  | n + 17 => exact Nat.zero_le _
/-- the first row from i on whose name is s; 17: none -/
noncomputable def rowFrom (s : ByteArray) (i : Nat) : Nat → Nat
  | 0 => 17
  | f + 1 => if sameOk (nm i) s = true then i else rowFrom s (i + 1) f
noncomputable def row (s : ByteArray) : Nat := rowFrom s 0 17
theorem rowFrom_yes (s : ByteArray) (i : Nat) (hi : i < 17) (h : sameOk (nm i) s = true) : rowFrom s i (17 - i) = i := by
  rw [show 17 - i = (17 - i - 1) + 1 by omega, rowFrom, if_pos h]
theorem rowFrom_no (s : ByteArray) (i : Nat) (hi : i < 17) (h : sameOk (nm i) s = false) : rowFrom s i (17 - i) = rowFrom s (i + 1) (17 - (i + 1)) := by
  rw [show 17 - i = (17 - (i + 1)) + 1 by omega, rowFrom, if_neg (by rw [h]; decide)]
theorem rowFrom_le (s : ByteArray) (i f : Nat) (h : i + f ≤ 17) : rowFrom s i f ≤ 17 := by
  induction f generalizing i with
  | zero => exact Nat.le_refl _
  | succ f ih =>
    rw [rowFrom]
    split
    · omega
    · exact ih (i + 1) (by omega)
theorem row_le (s : ByteArray) : row s ≤ 17 := rowFrom_le s 0 17 (by omega)
set_option maxHeartbeats 1000000 in
set_option maxRecDepth 100000 in
theorem known_any (s : ByteArray) (w : World) (hs : s.size ≤ maxLen) :
    Calls Try.prog 17 #[.string s] w fun e w' => e = .returned (.string (nm (row s))) ∧ Below w.heap.size w w' := by
  obtain ⟨b, hb⟩ : ∃ b, w.heap.size = b := ⟨_, rfl⟩
  obtain ⟨A, hA⟩ : ∃ A, nmV = A := ⟨_, rfl⟩
  have hN := nmV_at
  have hBk := Bk.fresh w 9 nmV
  have hB : Below w.heap.size w (w.alloc (.cells nmV 9)) := (Below.refl _ _).alloc (Nat.le_refl _) _
  rw [hb] at hB hBk ⊢
  go_enter Try.func17, Try.ntmps17
  go_wp2_with (fail)
  change Code.wp _ _ _ _ (w.alloc (.cells nmV 9))
  generalize w.alloc (.cells nmV 9) = w0 at *
  rw [hA] at hN hBk
  clear hA
  have hB0 := Lib.hid hB
  have hBk0 := Lib.hid hBk
  have hN0 := Lib.hid hN
  clear hB hBk hN
  go_loopw [7] (fun i wr => ∃ j : Nat, i = .int .i64 j ∧ j ≤ 17 ∧ rowFrom s j (17 - j) = row s ∧ Bk wr b 9 A ∧ Below b w wr) (fun i _ => 17 - (intOf i).toNat)
  case atStart => exact ⟨0, rfl, by omega, rfl, hBk0.out, hB0.out⟩
  case round =>
    obtain ⟨j, rfl, hj, hr, hK, hO⟩ := hrel
    have j0 : (0 : Int) ≤ j := by omega
    by_cases h : j < 17
    · have j1 : (j : Int) < 17 := by omega
      have c0 : wr.cell? ⟨b, j, none⟩ = some (.string (nm j)) := (hK.cell j).trans (hN0.out j h)
      have hz := nm_size j
      have hz2 : (nm j).size ≤ maxLen := by unfold maxLen; omega
      have h17 := Lib.hid h
      have hr0 := Lib.hid hr
      have hK0 := Lib.hid hK
      have hO0 := Lib.hid hO
      have hno := Lib.hid (rowFrom_no s j h)
      have hyes := Lib.hid (rowFrom_yes s j h)
      clear hr hK hO hz h
      obtain ⟨v, hv⟩ : ∃ v, nm j = v := ⟨_, rfl⟩
      rw [hv] at c0 hz2
      have hv0 := Lib.hid hv
      clear hv
      cases hq : sameOk v s
      · have hq0 := Lib.hid hq
        clear hq
        go_wp2_with (go_at_call 27; refine (same_any v s _ hz2 hs).mono ?_; rintro e w1 ⟨rfl, hb1⟩; have hq1 := hq0.out; rw [hq1])
        have hm := hK0.out.lt
        refine ⟨⟨j + 1, rfl, by omega, ?_, hK0.out.kept hb1 hm, hO0.out.trans (hb1.mono (by omega))⟩, by simp [intOf]; omega⟩
        rw [← hr0.out, hno.out (by rw [hv0.out, hq0.out])]
      · have hq0 := Lib.hid hq
        clear hq
        go_wp2_with (go_at_call 27; refine (same_any v s _ hz2 hs).mono ?_; rintro e w1 ⟨rfl, hb1⟩; have hq1 := hq0.out; rw [hq1])
        go_returns
        have hm := hK0.out.lt
        refine ⟨?_, hO0.out.trans (hb1.mono (by omega))⟩
        rw [← hr0.out, hyes.out (by rw [hv0.out, hq0.out]), hv0.out]; rfl
    · have e : j = 17 := by omega
      subst e
      have hr0 := Lib.hid hr
      have hO0 := Lib.hid hO
      clear hr hK hO h
      go_wp2_with (fail)
      go_returns
      refine ⟨?_, hO0.out⟩
      rw [← hr0.out]; rfl
end Go.Proofs.Ytmfffaocmboelaa
