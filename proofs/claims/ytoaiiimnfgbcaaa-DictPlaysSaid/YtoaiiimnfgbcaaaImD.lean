import Derived.Test.YtoaiiimnfgbcaaaImC
namespace Go.Proofs.Ytoaiiimnfgbcaaa
open Go.RowKit
set_option linter.unusedVariables false
set_option linter.unusedSimpArgs false
section
variable {p b : Nat} {L : Lay} {B : List UInt8} {o s : Bool} {mode : Int} {w : World}
theorem setcell_align (a v : Int) (h : ¬ a % 8 = 0) : Calls Try.prog 58 #[.pointer (some ⟨p, 0, none⟩), .int .i64 mode, .int .i64 a, .int .i64 v] w fun e w' => e = .returned (.int .i64 6) ∧ w' = w := by
  have h7 : (bits BinOp.and IntKind.i64 a 7 != 0) = true := by rw [i64_and7]; simpa using h
  go_enter Try.func58, Try.ntmps58
  go_wp2_with (fail)
  go_returns
  exact ⟨rfl, rfl⟩
set_option maxHeartbeats 1000000 in
theorem setcell_no (h : Im w p b L B o s) (a v : Int) (ha : -9223372036854775808 ≤ a ∧ a ≤ 9223372036854775807) (h8 : a % 8 = 0) (hok : ¬ rowOk L o s mode a 8 2) :
    Calls Try.prog 58 #[.pointer (some ⟨p, 0, none⟩), .int .i64 mode, .int .i64 a, .int .i64 v] w fun e w' => e = .returned (.int .i64 5) ∧ w' = w := by
  have h7 : (bits BinOp.and IntKind.i64 a 7 != 0) = false := by rw [i64_and7]; simpa using h8
  have hR := Lib.hid (row_no p b L B o s mode a 8 2 w h (by decide) (by decide) ha (.inr rfl) hok)
  clear h hok h8
  go_enter Try.func58, Try.ntmps58
  go_wp2_with (fail)
  refine hR.out.mono ?_
  rintro e w1 ⟨rfl, rfl⟩
  go_wp2_with (fail)
  go_returns
  exact ⟨rfl, rfl⟩
set_option maxRecDepth 100000 in
set_option maxHeartbeats 1000000 in
theorem setcell_yes (h : Im w p b L B o s) (a : Nat) (v : Int) (h8 : a % 8 = 0) (hok : rowOk L o s mode a 8 2) :
    Calls Try.prog 58 #[.pointer (some ⟨p, 0, none⟩), .int .i64 mode, .int .i64 a, .int .i64 v] w fun e w' => e = .returned (.int .i64 0) ∧ Im w' p b L (splice B a (by8 v)) o s ∧ Only b w w' := by
  have h7 : (bits BinOp.and IntKind.i64 a 7 != 0) = false := by rw [i64_and7]; simp; omega
  have hl := row_len h.ok hok
  have hlt : a + 8 ≤ B.length := by rw [h.len]; omega
  have hR := Lib.hid (row_at h a 8 2 (by decide) (.inr rfl) hok)
  have hY := fun W => bytes8 v W
  have hsl := splice_len B a (by8 v) (by rw [by8_length]; exact hlt)
  obtain ⟨c0, c1, c2, c3, c4, c5, c6, c7, hV⟩ := list8 (by8 v) (by8_length v)
  rw [hV] at hY hsl ⊢
  clear hV
  replace hY : ∀ W, Calls Try.prog 72 #[.int .i64 v] W fun e w' => e = .returned (.agg #[.int .u8 (c0.toNat : Int), .int .u8 (c1.toNat : Int), .int .u8 (c2.toNat : Int), .int .u8 (c3.toNat : Int), .int .u8 (c4.toNat : Int), .int .u8 (c5.toNat : Int), .int .u8 (c6.toNat : Int), .int .u8 (c7.toNat : Int)]) ∧ Below W.heap.size W w' := hY
  replace hY := Lib.hid hY
  replace hsl := Lib.hid hsl
  replace h := Lib.hid h
  clear hl hok h8
  go_enter Try.func58, Try.ntmps58
  go_wp2_with (fail)
  refine hR.out.mono ?_
  rintro e w1 ⟨rfl, rfl⟩
  go_wp2_with (fail)
  refine (hY.out _).mono ?_
  rintro e w2 ⟨rfl, hb⟩
  have hI := h.out.bel hb
  have hI2 := hI.past (.cells #[.int .u8 (c0.toNat : Int), .int .u8 (c1.toNat : Int), .int .u8 (c2.toNat : Int), .int .u8 (c3.toNat : Int), .int .u8 (c4.toNat : Int), .int .u8 (c5.toNat : Int), .int .u8 (c6.toNat : Int), .int .u8 (c7.toNat : Int)] 111)
  have hO2 := (Only.of_below hb b).past (.cells #[.int .u8 (c0.toNat : Int), .int .u8 (c1.toNat : Int), .int .u8 (c2.toNat : Int), .int .u8 (c3.toNat : Int), .int .u8 (c4.toNat : Int), .int .u8 (c5.toNat : Int), .int .u8 (c6.toNat : Int), .int .u8 (c7.toNat : Int)] 111)
  have hF := Bk.fresh w2 111 #[.int .u8 (c0.toNat : Int), .int .u8 (c1.toNat : Int), .int .u8 (c2.toNat : Int), .int .u8 (c3.toNat : Int), .int .u8 (c4.toNat : Int), .int .u8 (c5.toNat : Int), .int .u8 (c6.toNat : Int), .int .u8 (c7.toNat : Int)]
  have hb1 := hI.by_.lt
  clear hb hI h hR hY
  go_wp2_with (fail)
  obtain ⟨w3, hw3⟩ : ∃ w3, w2.alloc (.cells #[.int .u8 (c0.toNat : Int), .int .u8 (c1.toNat : Int), .int .u8 (c2.toNat : Int), .int .u8 (c3.toNat : Int), .int .u8 (c4.toNat : Int), .int .u8 (c5.toNat : Int), .int .u8 (c6.toNat : Int), .int .u8 (c7.toNat : Int)] 111) = w3 := ⟨_, rfl⟩
  rw [hw3] at hI2 hO2 hF ⊢
  clear hw3
  obtain ⟨q, hq⟩ : ∃ q, w2.heap.size = q := ⟨_, rfl⟩
  rw [hq] at hF ⊢
  clear hq
  replace hI2 := Lib.hid hI2
  replace hO2 := Lib.hid hO2
  replace hF := Lib.hid hF
  obtain ⟨w4, hrun, hbk, hon⟩ := copy_u8 (P := Try.prog) w3 65 65 3 5 Try.underlying65 size_u8 (some ⟨b, a, none⟩) (some ⟨q, 0, none⟩) 8 8 8 8 b a B 5 hI2.out.by_ [c0, c1, c2, c3, c4, c5, c6, c7] rfl (fun _ => ⟨rfl, _, rfl, fun j hj => by
    rw [show ((⟨q, 0, none⟩ : Addr).add j) = ⟨q, j, none⟩ by unfold Addr.add; split <;> simp_all, hF.out.cell j]
    rcases (by simpa using hj : j < 8) with hj
    rcases (by omega : j = 0 ∨ j = 1 ∨ j = 2 ∨ j = 3 ∨ j = 4 ∨ j = 5 ∨ j = 6 ∨ j = 7) with rfl | rfl | rfl | rfl | rfl | rfl | rfl | rfl <;> rfl⟩) (by simp; omega)
  rw [hrun]
  replace hbk := Lib.hid hbk
  replace hon := Lib.hid hon
  clear hrun
  go_wp2_with (fail)
  go_returns
  exact ⟨rfl, hI2.out.turned hbk.out hon.out hsl.out, hO2.out.trans hon.out⟩
theorem Im.setO (h : Im w p b L B o s) : Im (w.setCell ⟨p, 13, none⟩ (.bool true)) p b L B true s :=
  ⟨h.ok, h.st.put 13 (.bool true), h.by_.other (p := ⟨p, 13, none⟩) (fun e => h.ne e.symm) _, h.len⟩
theorem Im.setS (h : Im w p b L B o s) : Im (w.setCell ⟨p, 14, none⟩ (.bool true)) p b L B o true :=
  ⟨h.ok, h.st.put 14 (.bool true), h.by_.other (p := ⟨p, 14, none⟩) (fun e => h.ne e.symm) _, h.len⟩
set_option maxHeartbeats 1000000 in
theorem seal_yes (h : Im w p b L B o false) : Calls Try.prog 55 #[.pointer (some ⟨p, 0, none⟩)] w fun e w' => e = .returned (.int .i64 0) ∧ Im w' p b L B o true ∧ Only p w w' := by
  have c14 := h.c14
  have f14 := h.st.free 14
  replace h := Lib.hid h
  go_enter Try.func55, Try.ntmps55
  go_wp2_with (fail)
  go_returns
  exact ⟨rfl, h.out.setS, (Only.refl p _).put 14 _⟩
set_option maxHeartbeats 1000000 in
theorem seal_no (h : Im w p b L B o true) : Calls Try.prog 55 #[.pointer (some ⟨p, 0, none⟩)] w fun e w' => e = .returned (.int .i64 5) ∧ w' = w := by
  have c14 := h.c14
  clear h
  go_enter Try.func55, Try.ntmps55
  go_wp2_with (fail)
  go_returns
  exact ⟨rfl, rfl⟩
end
/-- a row of a bytes' block as a text -/
theorem conv_u8 (w : World) (A : Option Addr) (b off n cap : Nat) (l : List UInt8) (hl : l.length = n) (hA : 0 < n → A = some ⟨b, off, none⟩) (hc : ∀ j (hj : j < l.length), w.cell? ⟨b, off + j, none⟩ = some (.int .u8 (l[j].toNat : Int))) :
    (convert 65 9 (.slice A n cap)).run Try.prog w = .ok (.string ⟨l.toArray⟩) w := by
  subst hl
  by_cases h0 : 0 < l.length
  · obtain rfl := hA h0
    refine run_convert_bytes_back (P := Try.prog) w 65 9 5 ⟨b, off, none⟩ cap l Try.underlying65 Try.underlying5 Try.underlying9 (fun j hj => ?_)
    rw [show ((⟨b, off, none⟩ : Addr).add j) = ⟨b, off + j, none⟩ by unfold Addr.add; split <;> simp_all]
    exact hc j hj
  · obtain rfl : l = [] := List.eq_nil_of_length_eq_zero (by omega)
    cases A with
    | none =>
      show (convert 65 9 (.slice none 0 cap)).run Try.prog w = _
      rw [run_convert_bytes_string (P := Try.prog) w 65 9 5 none 0 cap Try.underlying65 Try.underlying5 Try.underlying9]
      rfl
    | some a => exact run_convert_bytes_back (P := Try.prog) w 65 9 5 a cap [] Try.underlying65 Try.underlying5 Try.underlying9 (fun j hj => absurd hj (Nat.not_lt_zero _))
/-- a region's bytes -/
def partL (L : Lay) (B : List UInt8) (r : Int) : List UInt8 := (B.drop (L.from_ r)).take (L.to_ r - L.from_ r)
section
variable {p b : Nat} {L : Lay} {B : List UInt8} {o s : Bool} {mode : Int} {w : World}
theorem part_len (h : Im w p b L B o s) (r : Int) : (partL L B r).length = L.to_ r - L.from_ r := by
  have := Lay.from_le h.ok r
  unfold partL
  rw [List.length_take, List.length_drop, h.len]; omega
theorem part_at (h : Im w p b L B o s) (r : Int) (j : Nat) (hj : j < (partL L B r).length) : w.cell? ⟨b, L.from_ r + j, none⟩ = some (.int .u8 ((partL L B r)[j].toNat : Int)) := by
  have hl := part_len h r
  have := Lay.from_le h.ok r
  rw [h.byte (L.from_ r + j) (by rw [h.len]; omega)]
  simp [partL]
set_option maxHeartbeats 1000000 in
theorem part_any (h : Im w p b L B o s) (r : Int) : Calls Try.prog 57 #[.pointer (some ⟨p, 0, none⟩), .int .i64 r] w fun e w' => ∃ A, e = .returned (.slice A (L.to_ r - L.from_ r) (L.to_ r - L.from_ r)) ∧ (0 < L.to_ r - L.from_ r → A = some ⟨b, L.from_ r, none⟩) ∧ ∃ n, w' = w.drewN n := by
  have hS := Lib.hid (span_any p b L B o s r w h)
  have hle := Lay.from_le h.ok r
  have m := Lay.mono h.ok
  have c12 := h.c12
  clear h
  generalize L.from_ r = x at *
  generalize L.to_ r = y at *
  generalize L.b6 = z at *
  have i1 : (0 : Int) ≤ x := by omega
  have i2 : (x : Int) ≤ y := by omega
  have i3 : (y : Int) ≤ z := by omega
  have i4 : x ≤ y := by omega
  have i5 : y ≤ z := by omega
  by_cases hxy : y = x
  · subst hxy
    go_enter Try.func57, Try.ntmps57
    go_wp2_with (fail)
    refine hS.out.mono ?_
    rintro e w1 ⟨rfl, n, rfl⟩
    go_wp2_with (fail)
    go_returns
    exact ⟨_, by rw [Nat.sub_self]; rfl, fun hlt => absurd hlt (by omega), n, rfl⟩
  · go_enter Try.func57, Try.ntmps57
    go_wp2_with (fail)
    refine hS.out.mono ?_
    rintro e w1 ⟨rfl, n, rfl⟩
    go_wp2_with (fail)
    go_returns
    exact ⟨_, rfl, fun _ => rfl, n, rfl⟩
set_option maxHeartbeats 1000000 in
theorem Part_any (h : Im w p b L B o s) (r : Int) : Calls Try.prog 25 #[.pointer (some ⟨p, 0, none⟩), .int .i64 r] w fun e w' => e = .returned (.string ⟨(partL L B r).toArray⟩) ∧ ∃ n, w' = w.drewN n := by
  have hP := Lib.hid (part_any h r)
  have hC := Lib.hid (fun A (hA : 0 < L.to_ r - L.from_ r → A = some ⟨b, L.from_ r, none⟩) n => conv_u8 (w.drewN n) A b (L.from_ r) (L.to_ r - L.from_ r) (L.to_ r - L.from_ r) (partL L B r) (part_len h r) hA (fun j hj => part_at (h.draws n) r j hj))
  generalize partL L B r = S at *
  clear h
  go_enter Try.func25, Try.ntmps25
  go_wp2_with (fail)
  refine hP.out.mono ?_
  rintro e w1 ⟨A, rfl, hA, n, rfl⟩
  have hrun := hC.out A hA n
  replace hA := Lib.hid hA
  generalize L.to_ r - L.from_ r = z at *
  go_wp2_with (fail)
  go_returns
  exact ⟨rfl, n, rfl⟩
theorem Only.drawn (g : Nat) (w : World) (n : Nat) : Only g w (w.drewN n) := (Only.refl g w).draws n
end
end Go.Proofs.Ytoaiiimnfgbcaaa
