import Derived.Test.YteldbkdfphkdbaaImX
namespace Go.Proofs.Yteldbkdfphkdbaa
open Go.RowKit
set_option linter.unusedVariables false
set_option linter.unusedSimpArgs false
/-! the document's Byte, SetByte, Text, Open, Seal, Part -/
section
variable {w : World} {p b : Nat} {L : Lay} {B : List UInt8} {o s : Bool} {mode : Int}
theorem RIm.byte (h : RIm w p b L B o s) (a : Nat) (hl : a < B.length) : w.cell? ⟨b, a, none⟩ = some (.int .u8 (B[a].toNat : Int)) := by
  rw [h.by_.cell]; simpa using u8s_at B a hl
theorem RIm.put (h : RIm w p b L B o s) (i : Nat) (c : UInt8) : RIm (w.setCell ⟨b, i, none⟩ (.int .u8 (c.toNat : Int))) p b L (B.set i c) o s :=
  ⟨h.ok, h.st.other (p := ⟨b, i, none⟩) h.ne _, by
    have := h.by_.put i (.int .u8 (c.toNat : Int))
    simpa [u8s, List.map_set] using this, by simpa using h.len⟩
theorem rrow_yes (h : RIm w p b L B o s) (a n right : Int) (hn : 0 < n) (hr : right = 1 ∨ right = 2) (hok : rowOk L o s mode a n right) :
    Calls Try.prog 59 #[.pointer (some ⟨p, 0, none⟩), .int .i64 mode, .int .i64 a, .int .i64 n, .int .i64 right] w fun e w' => e = .returned (.bool true) ∧ Below w.heap.size w w' := by
  have hi := reg_in h.ok a hok.1
  have m := Lay.mono h.ok
  have k := rrow_any (mode := mode) h a n right (by omega) (by omega) hr
  rw [decide_eq_true (⟨hn, hok⟩ : 0 < n ∧ rowOk L o s mode a n right)] at k
  exact k
theorem rrow_no (h : RIm w p b L B o s) (a n right : Int) (hn : n ≠ 0) (ha : -9223372036854775808 ≤ a ∧ a ≤ 9223372036854775807) (hr : right = 1 ∨ right = 2) (hok : n < 0 ∨ ¬ rowOk L o s mode a n right) :
    Calls Try.prog 59 #[.pointer (some ⟨p, 0, none⟩), .int .i64 mode, .int .i64 a, .int .i64 n, .int .i64 right] w fun e w' => e = .returned (.bool false) ∧ Below w.heap.size w w' := by
  have k := rrow_any (mode := mode) h a n right hn ha hr
  rw [decide_eq_false (fun g : 0 < n ∧ rowOk L o s mode a n right => by rcases hok with h1 | h1; exact absurd g.1 (by omega); exact h1 g.2)] at k
  exact k
set_option maxHeartbeats 1000000 in
theorem rbyte_yes (h : RIm w p b L B o s) (a : Nat) (c : UInt8) (hok : rowOk L o s mode a 1 1) (hc : B.getD a 0 = c) :
    Calls Try.prog 48 #[.pointer (some ⟨p, 0, none⟩), .int .i64 mode, .int .i64 a] w fun e w' => e = .returned (.tuple #[.int .u8 (c.toNat : Int), .int .i64 0]) ∧ Below w.heap.size w w' := by
  have hl := row_len h.ok hok
  have hlt : a < B.length := by rw [h.len]; omega
  have a1 : (a : Int) < (L.b6 : Int) := by omega
  have a0 : (0 : Int) ≤ (a : Int) := by omega
  have hR := Lib.hid (rrow_yes h a 1 1 (by decide) (.inl rfl) hok)
  have hcc : B[a] = c := by rw [← hc, List.getD_eq_getElem?_getD, List.getElem?_eq_getElem hlt]; rfl
  replace h := Lib.hid h
  clear hl hok hc
  go_enter Try.func48, Try.ntmps48
  go_wp2_with (fail)
  refine hR.out.mono ?_
  rintro e w1 ⟨rfl, hb⟩
  have h1 := h.out.bel hb
  have c5 := h1.c5
  have c0 := h1.byte a hlt
  rw [hcc] at c0
  replace hb := Lib.hid hb
  clear h1 hcc hlt hR
  go_wp2_with (fail)
  go_returns
  exact ⟨rfl, hb.out⟩
theorem rbyte_no (h : RIm w p b L B o s) (a : Int) (ha : -9223372036854775808 ≤ a ∧ a ≤ 9223372036854775807) (hok : ¬ rowOk L o s mode a 1 1) :
    Calls Try.prog 48 #[.pointer (some ⟨p, 0, none⟩), .int .i64 mode, .int .i64 a] w fun e w' => e = .returned (.tuple #[.int .u8 0, .int .i64 5]) ∧ Below w.heap.size w w' := by
  have hR := Lib.hid (rrow_no h a 1 1 (by decide) ha (.inl rfl) (.inr hok))
  clear h hok
  go_enter Try.func48, Try.ntmps48
  go_wp2_with (fail)
  refine hR.out.mono ?_
  rintro e w1 ⟨rfl, hb⟩
  go_wp2_with (fail)
  go_returns
  exact ⟨rfl, hb⟩
set_option maxHeartbeats 1000000 in
theorem rsetbyte_yes (h : RIm w p b L B o s) (a : Nat) (c : UInt8) (hok : rowOk L o s mode a 1 2) :
    Calls Try.prog 49 #[.pointer (some ⟨p, 0, none⟩), .int .i64 mode, .int .i64 a, .int .u8 (c.toNat : Int)] w fun e w' => e = .returned (.int .i64 0) ∧ RIm w' p b L (B.set a c) o s ∧ Only b w w' := by
  have hl := row_len h.ok hok
  have hlt : a < B.length := by rw [h.len]; omega
  have a1 : (a : Int) < (L.b6 : Int) := by omega
  have a0 : (0 : Int) ≤ (a : Int) := by omega
  have hR := Lib.hid (rrow_yes h a 1 2 (by decide) (.inr rfl) hok)
  replace h := Lib.hid h
  clear hl hok
  go_enter Try.func49, Try.ntmps49
  go_wp2_with (fail)
  refine hR.out.mono ?_
  rintro e w1 ⟨rfl, hb⟩
  have h1 := h.out.bel hb
  have c5 := h1.c5
  obtain ⟨v0, c0⟩ : ∃ v, w1.cell? ⟨b, a, none⟩ = some v := ⟨_, h1.byte a hlt⟩
  have f0 := h1.by_.free a
  have hO := Lib.hid (Only.of_below hb b)
  replace h1 := Lib.hid h1
  clear hR hlt
  go_wp2_with (fail)
  go_returns
  exact ⟨rfl, h1.out.put a c, hO.out.put a _⟩
theorem rsetbyte_no (h : RIm w p b L B o s) (a : Int) (v : Int) (ha : -9223372036854775808 ≤ a ∧ a ≤ 9223372036854775807) (hok : ¬ rowOk L o s mode a 1 2) :
    Calls Try.prog 49 #[.pointer (some ⟨p, 0, none⟩), .int .i64 mode, .int .i64 a, .int .u8 v] w fun e w' => e = .returned (.int .i64 5) ∧ Below w.heap.size w w' := by
  have hR := Lib.hid (rrow_no h a 1 2 (by decide) ha (.inr rfl) (.inr hok))
  clear h hok
  go_enter Try.func49, Try.ntmps49
  go_wp2_with (fail)
  refine hR.out.mono ?_
  rintro e w1 ⟨rfl, hb⟩
  go_wp2_with (fail)
  go_returns
  exact ⟨rfl, hb⟩
theorem rtext_neg (a n : Int) (hn : n < 0) : Calls Try.prog 52 #[.pointer (some ⟨p, 0, none⟩), .int .i64 mode, .int .i64 a, .int .i64 n] w fun e w' => e = .returned (.tuple #[.string ⟨#[]⟩, .int .i64 19]) ∧ Below w.heap.size w w' := by
  go_enter Try.func52, Try.ntmps52
  go_wp2_with (fail)
  go_returns
  exact ⟨rfl, Below.refl _ _⟩
theorem rtext_zero (a : Int) : Calls Try.prog 52 #[.pointer (some ⟨p, 0, none⟩), .int .i64 mode, .int .i64 a, .int .i64 0] w fun e w' => e = .returned (.tuple #[.string ⟨#[]⟩, .int .i64 0]) ∧ Below w.heap.size w w' := by
  have hR := Lib.hid (rrow_zero (p := p) mode a 1 w)
  go_enter Try.func52, Try.ntmps52
  go_wp2_with (fail)
  refine hR.out.mono ?_
  rintro e w1 ⟨rfl, hb⟩
  go_wp2_with (fail)
  go_returns
  exact ⟨rfl, hb⟩
theorem rtext_no (h : RIm w p b L B o s) (a n : Int) (hn : 0 < n) (ha : -9223372036854775808 ≤ a ∧ a ≤ 9223372036854775807) (hok : ¬ rowOk L o s mode a n 1) : Calls Try.prog 52 #[.pointer (some ⟨p, 0, none⟩), .int .i64 mode, .int .i64 a, .int .i64 n] w fun e w' => e = .returned (.tuple #[.string ⟨#[]⟩, .int .i64 5]) ∧ Below w.heap.size w w' := by
  have hR := Lib.hid (rrow_no h a n 1 (by omega) ha (.inl rfl) (.inr hok))
  have h0 : ¬ (n : Int) < 0 := by omega
  clear h hok
  go_enter Try.func52, Try.ntmps52
  go_wp2_with (fail)
  refine hR.out.mono ?_
  rintro e w1 ⟨rfl, hb⟩
  go_wp2_with (fail)
  go_returns
  exact ⟨rfl, hb⟩
theorem rrowL_at (h : RIm w p b L B o s) (a n : Nat) (j : Nat) (hj : j < (rowL B a n).length) : w.cell? ⟨b, a + j, none⟩ = some (.int .u8 ((rowL B a n)[j].toNat : Int)) := by
  have hl : a + j < B.length := by
    unfold rowL at hj; rw [List.length_take, List.length_drop] at hj; omega
  rw [h.byte (a + j) hl]
  simp [rowL]
set_option maxHeartbeats 1000000 in
theorem rtext_yes (h : RIm w p b L B o s) (a n : Nat) (hn : 0 < n) (hok : rowOk L o s mode a n 1) : Calls Try.prog 52 #[.pointer (some ⟨p, 0, none⟩), .int .i64 mode, .int .i64 a, .int .i64 n] w fun e w' => e = .returned (.tuple #[.string ⟨(rowL B a n).toArray⟩, .int .i64 0]) ∧ Below w.heap.size w w' := by
  have hl := row_len h.ok hok
  have hR := Lib.hid (rrow_yes h a n 1 (by omega) (.inl rfl) hok)
  have hrun := fun W' (cp : Nat) (h : RIm W' p b L B o s) => conv_u8 W' (some ⟨b, a, none⟩) b a n cp (rowL B a n) (rowL_len B a n (by rw [h.len]; omega)) (fun _ => rfl) (rrowL_at h a n)
  obtain ⟨T, hT⟩ : ∃ T : ByteArray, ⟨(rowL B a n).toArray⟩ = T := ⟨_, rfl⟩
  rw [hT] at hrun ⊢
  have m := Lay.mono h.ok
  have z0 : (0 : Int) ≤ (a : Int) := by omega
  have z1 : (0 : Int) < (n : Int) := by omega
  have z2 : (a : Int) + n ≤ (L.b6 : Int) := by omega
  have z3 : (L.b6 : Int) ≤ 200000 := by omega
  replace hrun := Lib.hid hrun
  replace h := Lib.hid h
  have h0 : ¬ (n : Int) < 0 := by omega
  have h00 : ((n : Int) == 0) = false := by simp; omega
  clear hT hok m hl
  go_enter Try.func52, Try.ntmps52
  go_wp2_with (fail)
  refine hR.out.mono ?_
  rintro e w1 ⟨rfl, hb⟩
  have h1 := h.out.bel hb
  have c5 := h1.c5
  have hr := fun cp => hrun.out w1 cp h1
  replace hb := Lib.hid hb
  clear h1 hR
  go_wp2_with (fail)
  go_returns
  exact ⟨rfl, hb.out⟩
theorem RIm.setO (h : RIm w p b L B o s) : RIm (w.setCell ⟨p, 6, none⟩ (.bool true)) p b L B true s :=
  ⟨h.ok, h.st.put 6 (.bool true), h.by_.other (p := ⟨p, 6, none⟩) (fun e => h.ne e.symm) _, h.len⟩
theorem RIm.setS (h : RIm w p b L B o s) : RIm (w.setCell ⟨p, 7, none⟩ (.bool true)) p b L B o true :=
  ⟨h.ok, h.st.put 7 (.bool true), h.by_.other (p := ⟨p, 7, none⟩) (fun e => h.ne e.symm) _, h.len⟩
theorem ropen_yes (h : RIm w p b L B o false) : Calls Try.prog 62 #[.pointer (some ⟨p, 0, none⟩)] w fun e w' => e = .returned (.int .i64 0) ∧ RIm w' p b L B true false ∧ Only p w w' := by
  have c7 := h.c7
  have f6 := h.st.free 6
  have c6 := h.c6
  replace h := Lib.hid h
  go_enter Try.func62, Try.ntmps62
  go_wp2_with (fail)
  go_returns
  exact ⟨rfl, h.out.setO, (Only.refl p _).put 6 _⟩
theorem ropen_no (h : RIm w p b L B o true) : Calls Try.prog 62 #[.pointer (some ⟨p, 0, none⟩)] w fun e w' => e = .returned (.int .i64 5) ∧ w' = w := by
  have c7 := h.c7
  clear h
  go_enter Try.func62, Try.ntmps62
  go_wp2_with (fail)
  go_returns
  exact ⟨rfl, rfl⟩
theorem rseal_yes (h : RIm w p b L B o false) : Calls Try.prog 63 #[.pointer (some ⟨p, 0, none⟩)] w fun e w' => e = .returned (.int .i64 0) ∧ RIm w' p b L B o true ∧ Only p w w' := by
  have c7 := h.c7
  have f7 := h.st.free 7
  replace h := Lib.hid h
  go_enter Try.func63, Try.ntmps63
  go_wp2_with (fail)
  go_returns
  exact ⟨rfl, h.out.setS, (Only.refl p _).put 7 _⟩
theorem rseal_no (h : RIm w p b L B o true) : Calls Try.prog 63 #[.pointer (some ⟨p, 0, none⟩)] w fun e w' => e = .returned (.int .i64 5) ∧ w' = w := by
  have c7 := h.c7
  clear h
  go_enter Try.func63, Try.ntmps63
  go_wp2_with (fail)
  go_returns
  exact ⟨rfl, rfl⟩
theorem rpart_at (h : RIm w p b L B o s) (r : Int) (j : Nat) (hj : j < (partL L B r).length) : w.cell? ⟨b, L.from_ r + j, none⟩ = some (.int .u8 ((partL L B r)[j].toNat : Int)) := by
  have hl : L.from_ r + j < B.length := by
    unfold partL at hj; rw [List.length_take, List.length_drop] at hj; omega
  rw [h.byte _ hl]
  simp [partL]
theorem rpart_len (h : RIm w p b L B o s) (r : Int) : (partL L B r).length = L.to_ r - L.from_ r := by
  have := Lay.from_le h.ok r
  unfold partL
  rw [List.length_take, List.length_drop, h.len]
  omega
set_option maxRecDepth 100000 in
set_option maxHeartbeats 1000000 in
theorem rpart_any (h : RIm w p b L B o s) (r : Int) : Calls Try.prog 56 #[.pointer (some ⟨p, 0, none⟩), .int .i64 r] w fun e w' => e = .returned (.string ⟨(partL L B r).toArray⟩) ∧ Below w.heap.size w w' := by
  have hS := Lib.hid (rspan_any h r)
  have hle := Lay.from_le h.ok r
  have hrun := fun W' (A : Option Addr) (cp : Nat) (hA : 0 < L.to_ r - L.from_ r → A = some ⟨b, L.from_ r, none⟩) (h : RIm W' p b L B o s) => conv_u8 W' A b (L.from_ r) (L.to_ r - L.from_ r) cp (partL L B r) (rpart_len h r) hA (rpart_at h r)
  have m := Lay.mono h.ok
  obtain ⟨T, hT⟩ : ∃ T : ByteArray, ⟨(partL L B r).toArray⟩ = T := ⟨_, rfl⟩
  rw [hT] at hrun ⊢
  clear hT
  generalize L.from_ r = x at *
  generalize L.to_ r = y at *
  have z0 : (0 : Int) ≤ (x : Int) := by omega
  have z1 : (x : Int) ≤ (y : Int) := by omega
  have z2 : (y : Int) ≤ (L.b6 : Int) := by omega
  have z3 : (L.b6 : Int) ≤ 200000 := by omega
  replace hrun := Lib.hid hrun
  replace h := Lib.hid h
  clear m hle
  go_enter Try.func56, Try.ntmps56
  go_wp2_with (fail)
  refine hS.out.mono ?_
  rintro e w1 ⟨rfl, hb⟩
  have h1 := h.out.bel hb
  have c5 := h1.c5
  have hr := fun cp => hrun.out w1 (some ⟨b, x, none⟩) cp (fun _ => rfl) h1
  replace hb := Lib.hid hb
  replace h1 := Lib.hid h1
  clear hS
  go_wp2_with (fail)
  · rw [hrun.out w1 (some ⟨b, 0, none⟩) 0 (fun hh => absurd hh (by omega)) h1.out]
    go_wp2_with (fail)
    go_returns
    exact ⟨rfl, hb.out⟩
  · go_returns
    exact ⟨rfl, hb.out⟩
end
end Go.Proofs.Yteldbkdfphkdbaa
