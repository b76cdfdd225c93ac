import Derived.Test.YtpbloennjcjgoaaDoorImC
namespace Go.Proofs.YtpbloennjcjgoaaDoor
open Go.RowKit
set_option linter.unusedVariables false
set_option linter.unusedSimpArgs false
section
variable {p b : Nat} {L : Lay} {B : List UInt8} {o s : Bool} {mode : Int} {w : World}
theorem setcell_align (a v : Int) (h : ¬ a % 8 = 0) : Calls Tryd.prog 67 #[.pointer (some ⟨p, 0, none⟩), .int .i64 mode, .int .i64 a, .int .i64 v] w fun e w' => e = .returned (.int .i64 6) ∧ w' = w := by
  have h7 : (bits BinOp.and IntKind.i64 a 7 != 0) = true := by rw [i64_and7]; simpa using h
  go_enter Tryd.func67, Tryd.ntmps67
  go_wp2_with (fail)
  go_returns
  exact ⟨rfl, rfl⟩
set_option maxHeartbeats 1000000 in
theorem setcell_no (h : Im w p b L B o s) (a v : Int) (ha : -9223372036854775808 ≤ a ∧ a ≤ 9223372036854775807) (h8 : a % 8 = 0) (hok : ¬ rowOk L o s mode a 8 2) :
    Calls Tryd.prog 67 #[.pointer (some ⟨p, 0, none⟩), .int .i64 mode, .int .i64 a, .int .i64 v] w fun e w' => e = .returned (.int .i64 5) ∧ w' = w := by
  have h7 : (bits BinOp.and IntKind.i64 a 7 != 0) = false := by rw [i64_and7]; simpa using h8
  have hR := Lib.hid (row_no p b L B o s mode a 8 2 w h (by decide) (by decide) ha (.inr rfl) hok)
  clear h hok h8
  go_enter Tryd.func67, Tryd.ntmps67
  go_wp2_with (fail)
  refine hR.out.mono ?_
  rintro e w1 ⟨rfl, rfl⟩
  go_wp2_with (fail)
  go_returns
  exact ⟨rfl, rfl⟩
set_option maxRecDepth 100000 in
set_option maxHeartbeats 1000000 in
theorem setcell_yes (h : Im w p b L B o s) (a : Nat) (v : Int) (h8 : a % 8 = 0) (hok : rowOk L o s mode a 8 2) :
    Calls Tryd.prog 67 #[.pointer (some ⟨p, 0, none⟩), .int .i64 mode, .int .i64 a, .int .i64 v] w fun e w' => e = .returned (.int .i64 0) ∧ Im w' p b L (splice B a (by8 v)) o s ∧ Only b w w' := by
  have h7 : (bits BinOp.and IntKind.i64 a 7 != 0) = false := by rw [i64_and7]; simp; omega
  have hl := row_len h.ok hok
  have hlt : a + 8 ≤ B.length := by rw [h.len]; omega
  have hR := Lib.hid (row_at h a 8 2 (by decide) (.inr rfl) hok)
  have hY := fun W => bytes8 v W
  have hsl := splice_len B a (by8 v) (by rw [by8_length]; exact hlt)
  obtain ⟨c0, c1, c2, c3, c4, c5, c6, c7, hV⟩ := list8 (by8 v) (by8_length v)
  rw [hV] at hY hsl ⊢
  clear hV
  replace hY : ∀ W, Calls Tryd.prog 73 #[.int .i64 v] W fun e w' => e = .returned (.agg #[.int .u8 (c0.toNat : Int), .int .u8 (c1.toNat : Int), .int .u8 (c2.toNat : Int), .int .u8 (c3.toNat : Int), .int .u8 (c4.toNat : Int), .int .u8 (c5.toNat : Int), .int .u8 (c6.toNat : Int), .int .u8 (c7.toNat : Int)]) ∧ Below W.heap.size W w' := hY
  replace hY := Lib.hid hY
  replace hsl := Lib.hid hsl
  replace h := Lib.hid h
  clear hl hok h8
  go_enter Tryd.func67, Tryd.ntmps67
  go_wp2_with (fail)
  refine hR.out.mono ?_
  rintro e w1 ⟨rfl, rfl⟩
  go_wp2_with (fail)
  refine (hY.out _).mono ?_
  rintro e w2 ⟨rfl, hb⟩
  have hI := h.out.bel hb
  have hI2 := hI.past (.cells #[.int .u8 (c0.toNat : Int), .int .u8 (c1.toNat : Int), .int .u8 (c2.toNat : Int), .int .u8 (c3.toNat : Int), .int .u8 (c4.toNat : Int), .int .u8 (c5.toNat : Int), .int .u8 (c6.toNat : Int), .int .u8 (c7.toNat : Int)] 135)
  have hO2 := (Only.of_below hb b).past (.cells #[.int .u8 (c0.toNat : Int), .int .u8 (c1.toNat : Int), .int .u8 (c2.toNat : Int), .int .u8 (c3.toNat : Int), .int .u8 (c4.toNat : Int), .int .u8 (c5.toNat : Int), .int .u8 (c6.toNat : Int), .int .u8 (c7.toNat : Int)] 135)
  have hF := Bk.fresh w2 135 #[.int .u8 (c0.toNat : Int), .int .u8 (c1.toNat : Int), .int .u8 (c2.toNat : Int), .int .u8 (c3.toNat : Int), .int .u8 (c4.toNat : Int), .int .u8 (c5.toNat : Int), .int .u8 (c6.toNat : Int), .int .u8 (c7.toNat : Int)]
  have hb1 := hI.by_.lt
  clear hb hI h hR hY
  go_wp2_with (fail)
  obtain ⟨w3, hw3⟩ : ∃ w3, w2.alloc (.cells #[.int .u8 (c0.toNat : Int), .int .u8 (c1.toNat : Int), .int .u8 (c2.toNat : Int), .int .u8 (c3.toNat : Int), .int .u8 (c4.toNat : Int), .int .u8 (c5.toNat : Int), .int .u8 (c6.toNat : Int), .int .u8 (c7.toNat : Int)] 135) = w3 := ⟨_, rfl⟩
  rw [hw3] at hI2 hO2 hF ⊢
  clear hw3
  obtain ⟨q, hq⟩ : ∃ q, w2.heap.size = q := ⟨_, rfl⟩
  rw [hq] at hF ⊢
  clear hq
  replace hI2 := Lib.hid hI2
  replace hO2 := Lib.hid hO2
  replace hF := Lib.hid hF
  obtain ⟨w4, hrun, hbk, hon⟩ := copy_u8 (P := Tryd.prog) w3 38 38 3 5 Tryd.underlying38 size_u8 (some ⟨b, a, none⟩) (some ⟨q, 0, none⟩) 8 8 8 8 b a B 5 hI2.out.by_ [c0, c1, c2, c3, c4, c5, c6, c7] rfl (fun _ => ⟨rfl, _, rfl, fun j hj => by
    rw [show ((⟨q, 0, none⟩ : Addr).add j) = ⟨q, j, none⟩ by unfold Addr.add; split <;> simp_all, hF.out.cell j]
    rcases (by simpa using hj : j < 8) with hj
    rcases (by omega : j = 0 ∨ j = 1 ∨ j = 2 ∨ j = 3 ∨ j = 4 ∨ j = 5 ∨ j = 6 ∨ j = 7) with rfl | rfl | rfl | rfl | rfl | rfl | rfl | rfl <;> rfl⟩) (by simp; omega)
  rw [hrun]
  replace hbk := Lib.hid hbk
  replace hon := Lib.hid hon
  clear hrun
  go_wp2_with (fail)
  go_returns
  exact ⟨rfl, hI2.out.turned hbk.out hon.out hsl.out, hO2.out.trans hon.out⟩
theorem Im.setO (h : Im w p b L B o s) : Im (w.setCell ⟨p, 13, none⟩ (.bool true)) p b L B true s :=
  ⟨h.ok, h.st.put 13 (.bool true), h.by_.other (p := ⟨p, 13, none⟩) (fun e => h.ne e.symm) _, h.len⟩
theorem Im.setS (h : Im w p b L B o s) : Im (w.setCell ⟨p, 14, none⟩ (.bool true)) p b L B o true :=
  ⟨h.ok, h.st.put 14 (.bool true), h.by_.other (p := ⟨p, 14, none⟩) (fun e => h.ne e.symm) _, h.len⟩
end
/-- a row of a bytes' block as a text -/
theorem conv_u8 (w : World) (A : Option Addr) (b off n cap : Nat) (l : List UInt8) (hl : l.length = n) (hA : 0 < n → A = some ⟨b, off, none⟩) (hc : ∀ j (hj : j < l.length), w.cell? ⟨b, off + j, none⟩ = some (.int .u8 (l[j].toNat : Int))) :
    (convert 38 9 (.slice A n cap)).run Tryd.prog w = .ok (.string ⟨l.toArray⟩) w := by
  subst hl
  by_cases h0 : 0 < l.length
  · obtain rfl := hA h0
    refine run_convert_bytes_back (P := Tryd.prog) w 38 9 5 ⟨b, off, none⟩ cap l Tryd.underlying38 Tryd.underlying5 Tryd.underlying9 (fun j hj => ?_)
    rw [show ((⟨b, off, none⟩ : Addr).add j) = ⟨b, off + j, none⟩ by unfold Addr.add; split <;> simp_all]
    exact hc j hj
  · obtain rfl : l = [] := List.eq_nil_of_length_eq_zero (by omega)
    cases A with
    | none =>
      show (convert 38 9 (.slice none 0 cap)).run Tryd.prog w = _
      rw [run_convert_bytes_string (P := Tryd.prog) w 38 9 5 none 0 cap Tryd.underlying38 Tryd.underlying5 Tryd.underlying9]
      rfl
    | some a => exact run_convert_bytes_back (P := Tryd.prog) w 38 9 5 a cap [] Tryd.underlying38 Tryd.underlying5 Tryd.underlying9 (fun j hj => absurd hj (Nat.not_lt_zero _))
/-- a region's bytes -/
def partL (L : Lay) (B : List UInt8) (r : Int) : List UInt8 := (B.drop (L.from_ r)).take (L.to_ r - L.from_ r)
section
variable {p b : Nat} {L : Lay} {B : List UInt8} {o s : Bool} {mode : Int} {w : World}
theorem part_len (h : Im w p b L B o s) (r : Int) : (partL L B r).length = L.to_ r - L.from_ r := by
  have := Lay.from_le h.ok r
  unfold partL
  rw [List.length_take, List.length_drop, h.len]; omega
theorem part_at (h : Im w p b L B o s) (r : Int) (j : Nat) (hj : j < (partL L B r).length) : w.cell? ⟨b, L.from_ r + j, none⟩ = some (.int .u8 ((partL L B r)[j].toNat : Int)) := by
  have hl := part_len h r
  have := Lay.from_le h.ok r
  rw [h.byte (L.from_ r + j) (by rw [h.len]; omega)]
  simp [partL]
set_option maxHeartbeats 1000000 in
theorem part_any (h : Im w p b L B o s) (r : Int) : Calls Tryd.prog 53 #[.pointer (some ⟨p, 0, none⟩), .int .i64 r] w fun e w' => ∃ A, e = .returned (.slice A (L.to_ r - L.from_ r) (L.to_ r - L.from_ r)) ∧ (0 < L.to_ r - L.from_ r → A = some ⟨b, L.from_ r, none⟩) ∧ ∃ n, w' = w.drewN n := by
  have hS := Lib.hid (span_any p b L B o s r w h)
  have hle := Lay.from_le h.ok r
  have m := Lay.mono h.ok
  have c12 := h.c12
  clear h
  generalize L.from_ r = x at *
  generalize L.to_ r = y at *
  generalize L.b6 = z at *
  have i1 : (0 : Int) ≤ x := by omega
  have i2 : (x : Int) ≤ y := by omega
  have i3 : (y : Int) ≤ z := by omega
  have i4 : x ≤ y := by omega
  have i5 : y ≤ z := by omega
  by_cases hxy : y = x
  · subst hxy
    go_enter Tryd.func53, Tryd.ntmps53
    go_wp2_with (fail)
    refine hS.out.mono ?_
    rintro e w1 ⟨rfl, n, rfl⟩
    go_wp2_with (fail)
    go_returns
    exact ⟨_, by rw [Nat.sub_self]; rfl, fun hlt => absurd hlt (by omega), n, rfl⟩
  · go_enter Tryd.func53, Tryd.ntmps53
    go_wp2_with (fail)
    refine hS.out.mono ?_
    rintro e w1 ⟨rfl, n, rfl⟩
    go_wp2_with (fail)
    go_returns
    exact ⟨_, rfl, fun _ => rfl, n, rfl⟩
set_option maxHeartbeats 1000000 in
theorem Part_any (h : Im w p b L B o s) (r : Int) : Calls Tryd.prog 29 #[.pointer (some ⟨p, 0, none⟩), .int .i64 r] w fun e w' => e = .returned (.string ⟨(partL L B r).toArray⟩) ∧ ∃ n, w' = w.drewN n := by
  have hP := Lib.hid (part_any h r)
  have hC := Lib.hid (fun A (hA : 0 < L.to_ r - L.from_ r → A = some ⟨b, L.from_ r, none⟩) n => conv_u8 (w.drewN n) A b (L.from_ r) (L.to_ r - L.from_ r) (L.to_ r - L.from_ r) (partL L B r) (part_len h r) hA (fun j hj => part_at (h.draws n) r j hj))
  generalize partL L B r = S at *
  clear h
  go_enter Tryd.func29, Tryd.ntmps29
  go_wp2_with (fail)
  refine hP.out.mono ?_
  rintro e w1 ⟨A, rfl, hA, n, rfl⟩
  have hrun := hC.out A hA n
  replace hA := Lib.hid hA
  generalize L.to_ r - L.from_ r = z at *
  go_wp2_with (fail)
  go_returns
  exact ⟨rfl, n, rfl⟩
theorem put_arg (r : Int) (S : ByteArray) (hr : r < 1 ∨ 5 < r) : Calls Tryd.prog 47 #[.pointer (some ⟨p, 0, none⟩), .int .i64 r, .string S] w fun e w' => e = .returned (.int .i64 1) ∧ w' = w := by
  by_cases h1 : r < 1
  · go_enter Tryd.func47, Tryd.ntmps47
    go_wp2_with (fail)
    go_returns
    exact ⟨rfl, rfl⟩
  · have h2 : 5 < r := by omega
    go_enter Tryd.func47, Tryd.ntmps47
    go_wp2_with (fail)
    go_returns
    exact ⟨rfl, rfl⟩
theorem put_sealed (h : Im w p b L B o true) (S : ByteArray) : Calls Tryd.prog 47 #[.pointer (some ⟨p, 0, none⟩), .int .i64 1, .string S] w fun e w' => e = .returned (.int .i64 5) ∧ w' = w := by
  have c14 := h.c14
  clear h
  go_enter Tryd.func47, Tryd.ntmps47
  go_wp2_with (fail)
  go_returns
  exact ⟨rfl, rfl⟩
set_option maxHeartbeats 1000000 in
theorem put_form (h : Im w p b L B o s) (r : Int) (S : ByteArray) (h1 : 1 ≤ r) (h5 : r ≤ 5) (hs : ¬ (r = 1 ∧ s = true)) (hl : S.size ≠ L.to_ r - L.from_ r) : Calls Tryd.prog 47 #[.pointer (some ⟨p, 0, none⟩), .int .i64 r, .string S] w fun e w' => e = .returned (.int .i64 4) ∧ ∃ n, w' = w.drewN n := by
  have hP := Lib.hid (part_any h r)
  have c14 := h.c14
  have hle := Lay.from_le h.ok r
  have m := Lay.mono h.ok
  have hz : L.to_ r - L.from_ r ≤ 200000 := by omega
  clear h hle m
  generalize L.to_ r - L.from_ r = z at *
  generalize L.from_ r = x at *
  have q : ((S.size : Int) != (z : Int)) = true := by simp; omega
  have n1 : ¬ r < 1 := by omega
  have n5 : ¬ 5 < r := by omega
  by_cases hr1 : r = 1
  · subst hr1
    obtain rfl : s = false := by cases s <;> simp_all
    go_enter Tryd.func47, Tryd.ntmps47
    go_wp2_with (fail)
    refine hP.out.mono ?_
    rintro e w1 ⟨A, rfl, hA, n, rfl⟩
    clear hA
    go_wp2_with (fail)
    go_returns
    exact ⟨rfl, n, rfl⟩
  · have q1 : (r == 1) = false := by simpa using hr1
    clear hs c14
    go_enter Tryd.func47, Tryd.ntmps47
    go_wp2_with (fail)
    refine hP.out.mono ?_
    rintro e w1 ⟨A, rfl, hA, n, rfl⟩
    clear hA
    go_wp2_with (fail)
    go_returns
    exact ⟨rfl, n, rfl⟩
theorem Only.drawn (g : Nat) (w : World) (n : Nat) : Only g w (w.drewN n) := (Only.refl g w).draws n
set_option maxRecDepth 100000 in
set_option maxHeartbeats 1000000 in
theorem put_yes (h : Im w p b L B o s) (r : Int) (S : ByteArray) (h1 : 1 ≤ r) (h5 : r ≤ 5) (hs : ¬ (r = 1 ∧ s = true)) (hl : S.size = L.to_ r - L.from_ r) : Calls Tryd.prog 47 #[.pointer (some ⟨p, 0, none⟩), .int .i64 r, .string S] w fun e w' => e = .returned (.int .i64 0) ∧ Im w' p b L (splice B (L.from_ r) S.data.toList) o s ∧ Only b w w' := by
  have hP := Lib.hid (fun n => part_any (h.draws n) r)
  have hCp := fun A n (hA : 0 < L.to_ r - L.from_ r → A = some ⟨b, L.from_ r, none⟩) => copy_text (P := Tryd.prog) (w.drewN n) 38 9 3 5 Tryd.underlying38 size_u8 A b (L.from_ r) (L.to_ r - L.from_ r) (L.to_ r - L.from_ r) S B 5 (h.draws n).by_ S.data.toList (by rw [hl, show Nat.min (L.to_ r - L.from_ r) (L.to_ r - L.from_ r) = L.to_ r - L.from_ r from Nat.min_self _, ← hl, ← data_size, List.take_length]) (by rw [data_size, hl]; exact hA) (by have := Lay.from_le h.ok r; rw [data_size, hl, h.len]; omega)
  have hfit : (splice B (L.from_ r) S.data.toList).length = B.length := splice_len _ _ _ (by have := Lay.from_le h.ok r; rw [data_size, hl, h.len]; omega)
  have c14 := h.c14
  have hle := Lay.from_le h.ok r
  have m := Lay.mono h.ok
  have hz : L.to_ r - L.from_ r ≤ 200000 := by omega
  clear hle m
  replace hfit := Lib.hid hfit
  replace hCp := Lib.hid hCp
  replace h := Lib.hid h
  generalize L.to_ r - L.from_ r = z at *
  generalize L.from_ r = x at *
  have q : ((S.size : Int) != (z : Int)) = false := by simp; omega
  have n1 : ¬ r < 1 := by omega
  have n5 : ¬ 5 < r := by omega
  replace hl := Lib.hid hl
  have hh : r = 1 ∧ s = false ∨ (r == 1) = false := by
    by_cases hr1 : r = 1
    · exact .inl ⟨hr1, by cases s <;> simp_all⟩
    · exact .inr (by simpa using hr1)
  clear hs
  rcases hh with ⟨rfl, rfl⟩ | q1
  all_goals (
    go_enter Tryd.func47, Tryd.ntmps47
    go_wp2_with (fail)
    refine (hP.out 0).mono ?_
    rintro e w1 ⟨A, rfl, hA, n, rfl⟩
    clear hA
    go_wp2_with (fail)
    refine (hP.out n).mono ?_
    rintro e w1 ⟨A, rfl, hA, k, rfl⟩
    obtain ⟨w4, hrun, hbk, hon⟩ := hCp.out A (n + k) hA
    replace hA := Lib.hid hA
    replace hbk := Lib.hid hbk
    replace hon := Lib.hid hon
    go_wp2_with (fail)
    go_returns
    exact ⟨rfl, (h.out.draws (n + k)).turned hbk.out hon.out hfit.out, (Only.drawn b w (n + k)).trans hon.out⟩)
end
end Go.Proofs.YtpbloennjcjgoaaDoor
