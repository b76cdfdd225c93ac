import Derived.Test.YtoaiiimnfgbcaaaDcD
namespace Go.Proofs.Ytoaiiimnfgbcaaa
open Go.RowKit
attribute [local go_sem] Oper.semAt_some
set_option linter.unusedVariables false
set_option linter.unusedSimpArgs false
/-! chapter 8: the document's list over a window of the bytes -/
/-- a window of the bytes -/
def win (g n : Nat) (B : List UInt8) : List UInt8 := (B.drop g).take n
theorem win_len {g n : Nat} {B : List UInt8} (h : g + n ≤ B.length) : (win g n B).length = n := by unfold win; rw [List.length_take, List.length_drop]; omega
theorem win_at {g n i : Nat} {B : List UInt8} (h : i < n) : (win g n B)[i]? = B[g + i]? := by
  unfold win
  rw [List.getElem?_take, if_pos h, List.getElem?_drop]
theorem win_set {g n i : Nat} {B : List UInt8} (c : UInt8) (h1 : g ≤ i) : win g n (B.set i c) = (win g n B).set (i - g) c := by
  refine List.ext_getElem? fun j => ?_
  by_cases hj : j < n
  · rw [win_at hj, List.getElem?_set, List.getElem?_set, win_at hj]
    by_cases e : i = g + j
    · subst e
      have e2 : g + j - g = j := by omega
      rw [e2, if_pos rfl, if_pos rfl]
      unfold win
      rw [List.length_take, List.length_drop]
      by_cases hl : g + j < B.length
      · rw [if_pos hl, if_pos (by omega)]
      · rw [if_neg hl, if_neg (by omega)]
    · rw [if_neg e, if_neg (by omega)]
  · have e1 : (win g n (B.set i c))[j]? = none := List.getElem?_eq_none (by unfold win; rw [List.length_take]; omega)
    have e2 : ((win g n B).set (i - g) c)[j]? = none := List.getElem?_eq_none (by unfold win; rw [List.length_set, List.length_take]; omega)
    rw [e1, e2]
/-- the document's list in memory: q the struct, m its bytes -/
def rdV (m g n : Nat) (cl : Bool) (h l : Nat) : Array Value := #[.slice (some ⟨m, 0, none⟩) n n, .int .i64 g, .bool cl, .int .i64 h, .int .i64 l]
structure Rd (W : World) (q m g n : Nat) (B : List UInt8) (cl : Bool) (h l : Nat) : Prop where
  bk : Bk W q 67 (rdV m g n cl h l)
  by_ : Bk W m 5 (u8s (win g n B)).toArray
  len : g + n ≤ B.length
  g8 : g % 8 = 0
  n8 : n % 8 = 0
  n24 : 24 ≤ n
  far : g + n ≤ 143360
  lo : g + 8 ≤ h
  hi : h ≤ g + n
  la : l = 0 ∨ g + 8 ≤ l ∧ l < g + n ∧ l % 8 = 0
section
variable {W W' w : World} {q m g n : Nat} {B : List UInt8} {cl : Bool} {h l : Nat}
theorem Rd.ne (D : Rd W q m g n B cl h l) : q ≠ m := D.bk.ne D.by_ (by decide)
theorem Rd.bel (D : Rd W q m g n B cl h l) (hb : Below W.heap.size W W') : Rd W' q m g n B cl h l := ⟨D.bk.kept hb D.bk.lt, D.by_.kept hb D.by_.lt, D.len, D.g8, D.n8, D.n24, D.far, D.lo, D.hi, D.la⟩
theorem Rd.draws (D : Rd W q m g n B cl h l) (k : Nat) : Rd (W.drewN k) q m g n B cl h l := ⟨D.bk.draws k, D.by_.draws k, D.len, D.g8, D.n8, D.n24, D.far, D.lo, D.hi, D.la⟩
theorem Rd.draw (D : Rd W q m g n B cl h l) : Rd W.drew q m g n B cl h l := D.draws 1
theorem Rd.c0 (D : Rd W q m g n B cl h l) : W.cell? ⟨q, 0, none⟩ = some (.slice (some ⟨m, 0, none⟩) n n) := D.bk.cell 0
theorem Rd.c1 (D : Rd W q m g n B cl h l) : W.cell? ⟨q, 1, none⟩ = some (.int .i64 g) := D.bk.cell 1
theorem Rd.c2 (D : Rd W q m g n B cl h l) : W.cell? ⟨q, 2, none⟩ = some (.bool cl) := D.bk.cell 2
theorem Rd.c3 (D : Rd W q m g n B cl h l) : W.cell? ⟨q, 3, none⟩ = some (.int .i64 h) := D.bk.cell 3
theorem Rd.c4 (D : Rd W q m g n B cl h l) : W.cell? ⟨q, 4, none⟩ = some (.int .i64 l) := D.bk.cell 4
theorem Rd.byte (D : Rd W q m g n B cl h l) (i : Nat) (hi : i < n) : W.cell? ⟨m, i, none⟩ = some (.int .u8 ((B.getD (g + i) 0).toNat : Int)) := by
  have hl := D.len
  have := D.by_.cell i
  rw [this]
  have h2 : i < (win g n B).length := by rw [win_len hl]; exact hi
  have e1 : (u8s (win g n B)).toArray[i]? = (u8s (win g n B))[i]? := by simp
  rw [e1, u8s_at _ _ h2]
  have h3 : (win g n B)[i]? = B[g + i]? := win_at hi
  rw [List.getElem?_eq_getElem h2, List.getElem?_eq_getElem (by omega)] at h3
  rw [Option.some.inj h3, List.getD_eq_getElem?_getD, List.getElem?_eq_getElem (by omega)]
  rfl
theorem Rd.put3 (D : Rd W q m g n B cl h l) (h' : Nat) (h1 : g + 8 ≤ h') (h2 : h' ≤ g + n) : Rd (W.setCell ⟨q, 3, none⟩ (.int .i64 h')) q m g n B cl h' l :=
  ⟨D.bk.put 3 _, D.by_.other (p := ⟨q, 3, none⟩) D.ne.symm _, D.len, D.g8, D.n8, D.n24, D.far, h1, h2, D.la⟩
theorem Rd.put4 (D : Rd W q m g n B cl h l) (l' : Nat) (h1 : l' = 0 ∨ g + 8 ≤ l' ∧ l' < g + n ∧ l' % 8 = 0) : Rd (W.setCell ⟨q, 4, none⟩ (.int .i64 l')) q m g n B cl h l' :=
  ⟨D.bk.put 4 _, D.by_.other (p := ⟨q, 4, none⟩) D.ne.symm _, D.len, D.g8, D.n8, D.n24, D.far, D.lo, D.hi, h1⟩
theorem Rd.shutp (D : Rd W q m g n B cl h l) : Rd (W.setCell ⟨q, 2, none⟩ (.bool true)) q m g n B true h l :=
  ⟨D.bk.put 2 _, D.by_.other (p := ⟨q, 2, none⟩) D.ne.symm _, D.len, D.g8, D.n8, D.n24, D.far, D.lo, D.hi, D.la⟩
/-- a byte is written -/
theorem Rd.set (D : Rd W q m g n B cl h l) (i : Nat) (c : UInt8) (h1 : g ≤ i) : Rd (W.setCell ⟨m, i - g, none⟩ (.int .u8 (c.toNat : Int))) q m g n (B.set i c) cl h l := by
  refine ⟨D.bk.other (p := ⟨m, i - g, none⟩) D.ne _, ?_, by rw [List.length_set]; exact D.len, D.g8, D.n8, D.n24, D.far, D.lo, D.hi, D.la⟩
  have := D.by_.put (i - g) (.int .u8 (c.toNat : Int))
  rw [win_set c h1]
  rw [show (u8s ((win g n B).set (i - g) c)).toArray = (u8s (win g n B)).toArray.setIfInBounds (i - g) (.int .u8 (c.toNat : Int)) by simp [u8s, List.map_set]]
  exact this
/-- the bytes of another list of the same image do not count -/
theorem Rd.turn {B' : List UInt8} (D : Rd W q m g n B cl h l) (hl : B'.length = B.length) (hs : ∀ i, g ≤ i → i < g + n → B'.getD i 0 = B.getD i 0) : Rd W q m g n B' cl h l := by
  have e : win g n B' = win g n B := by
    refine List.ext_getElem? fun j => ?_
    by_cases hj : j < n
    · have := D.len
      have h1 := hs (g + j) (by omega) (by omega)
      rw [List.getD_eq_getElem?_getD, List.getD_eq_getElem?_getD, List.getElem?_eq_getElem (by omega), List.getElem?_eq_getElem (by omega)] at h1
      rw [win_at hj, win_at hj, List.getElem?_eq_getElem (by omega), List.getElem?_eq_getElem (by omega)]
      exact congrArg some h1
    · have e1 : (win g n B')[j]? = none := List.getElem?_eq_none (by unfold win; rw [List.length_take]; omega)
      have e2 : (win g n B)[j]? = none := List.getElem?_eq_none (by unfold win; rw [List.length_take]; omega)
      rw [e1, e2]
  exact ⟨D.bk, by rw [e]; exact D.by_, by rw [hl]; exact D.len, D.g8, D.n8, D.n24, D.far, D.lo, D.hi, D.la⟩
/-! to -/
theorem rto_any (D : Rd w q m g n B cl h l) : Calls Try.prog 64 #[.pointer (some ⟨q, 0, none⟩)] w fun e w' => e = .returned (.int .i64 ((g + n : Nat) : Int)) ∧ ∃ k, w' = w.drewN k := by
  have c0 := D.c0
  have c1 := D.c1
  have hf := D.far
  have hb' : (g : Int) ≤ 143360 := by omega
  have hu' : (n : Int) ≤ 143360 := by omega
  have hcast : ((g + n : Nat) : Int) = (g : Int) + n := by omega
  rw [hcast]
  clear D hcast hf
  go_enter Try.func64, Try.ntmps64
  go_wp2_with (fail)
  go_quiet (fail)
  go_wp2_with (fail)
  go_returns
  exact ⟨rfl, _, rfl⟩
/-! CComma -/
theorem rcc_full (D : Rd w q m g n B cl h l) (c : Int) (hh : g + n ≤ h) : Calls Try.prog 44 #[.pointer (some ⟨q, 0, none⟩), .int .u8 c] w fun e w' => e = .returned (.int .i64 9) ∧ ∃ k, w' = w.drewN k := by
  have c3 := D.c3
  have hto := Lib.hid (fun k => rto_any (D.draws k))
  obtain ⟨y, hy⟩ : ∃ y, g + n = y := ⟨_, rfl⟩
  rw [hy] at hh hto
  have i1 : (y : Int) ≤ h := by omega
  clear D hy hh
  go_enter Try.func44, Try.ntmps44
  go_wp2_with (fail)
  go_quiet ((go_at_call 64; with_reducible exact Calls.quiet_of (hto.out _)))
  go_wp2_with (fail)
  go_returns
  exact ⟨rfl, _, rfl⟩
theorem rcc_fence (D : Rd w q m g n B true h l) (c : Int) (hh : h < g + n) : Calls Try.prog 44 #[.pointer (some ⟨q, 0, none⟩), .int .u8 c] w fun e w' => e = .returned (.int .i64 5) ∧ ∃ k, w' = w.drewN k := by
  have c3 := D.c3
  have hto := Lib.hid (fun k => rto_any (D.draws k))
  obtain ⟨y, hy⟩ : ∃ y, g + n = y := ⟨_, rfl⟩
  rw [hy] at hh hto
  have i1 : ¬ (y : Int) ≤ h := by omega
  replace D := Lib.hid D
  clear hy hh
  go_enter Try.func44, Try.ntmps44
  go_wp2_with (fail)
  go_quiet ((go_at_call 64; with_reducible exact Calls.quiet_of (hto.out _)))
  have c2 := (D.out.draws nq).c2
  go_wp2_with (fail)
  go_returns
  exact ⟨rfl, _, rfl⟩
/-- where a byte is laid -/
theorem rcc_yes (D : Rd w q m g n B false h l) (c : UInt8) (hh : h < g + n) : Calls Try.prog 44 #[.pointer (some ⟨q, 0, none⟩), .int .u8 (c.toNat : Int)] w fun e w' => e = .returned (.int .i64 0) ∧ Rd w' q m g n (B.set h c) false (h + 1) l ∧ Onb m q w w' := by
  have hto := Lib.hid (fun k => rto_any (D.draws k))
  have c3 := D.c3
  have hfar := D.far
  obtain ⟨y, hy⟩ : ∃ y, g + n = y := ⟨_, rfl⟩
  rw [hy] at hto
  have i0 : ¬ (y : Int) ≤ h := by omega
  replace D := Lib.hid D
  clear hy
  go_enter Try.func44, Try.ntmps44
  go_wp2_with (fail)
  go_quiet ((go_at_call 64; with_reducible exact Calls.quiet_of (hto.out _)))
  have D1 := D.out.draws nq
  have c2 := D1.c2
  have hO1 : Onb m q w (w.drewN nq) := (Onb.refl m q w).draws nq
  obtain ⟨w1, hw1⟩ : ∃ w1, w.drewN nq = w1 := ⟨_, rfl⟩
  rw [hw1] at D1 hO1 c2 ⊢
  clear hw1 c3 hto D
  go_wp2_with (fail)
  clear i0
  have D := D1
  clear D1
  have c0 := D.c0
  have c1 := D.c1
  have c3 := D.c3
  have hlo := D.lo
  have hhi := D.hi
  have hfar := D.far
  obtain ⟨i, hi⟩ : ∃ i, h - g = i := ⟨_, rfl⟩
  have i1 : IntKind.i64.wrap ((h : Int) - g) = (i : Int) := by rw [IntKind.wrap_i64]; omega
  have i2 : (i : Int) < n := by omega
  have i3 : (0 : Int) ≤ i := by omega
  have i4 : ¬ (i : Int) < 0 := by omega
  have i5 : IntKind.i64.wrap ((h : Int) + 1) = ((h + 1 : Nat) : Int) := by rw [IntKind.wrap_i64]; omega
  have y0 := D.byte i (by omega)
  have yf := D.by_.free i
  replace D := Lib.hid D
  replace hO1 := Lib.hid hO1
  clear hfar c2
  have hk : ∀ j, (w1.setCell ⟨m, i, none⟩ (.int .u8 ((c : UInt8).toNat : Int))).cell? ⟨q, j, none⟩ = w1.cell? ⟨q, j, none⟩ := fun j => World.cell?_setCell_far _ _ _ _ D.out.ne.symm
  have D2 := (D.out.set h c (by have := D.out.lo; omega)).draw
  rw [hi] at D2
  have hO2 : Onb m q w1 (w1.setCell ⟨m, i, none⟩ (.int .u8 ((c : UInt8).toNat : Int))).drew := (Onb.ofb ((Only.refl m w1).put i _)).draw
  replace D2 := Lib.hid D2
  replace hO2 := Lib.hid hO2
  go_region_held3 (fun w' => w'.cell? ⟨q, 0, none⟩ = some (.slice (some ⟨m, 0, none⟩) n n) ∧ w'.cell? ⟨q, 1, none⟩ = some (.int .i64 g) ∧ w'.cell? ⟨q, 3, none⟩ = some (.int .i64 h)) (first | (simp [go_sem, *]; done) | go_keep) (fail)
  obtain ⟨W2, hW2⟩ : ∃ W2, (w1.setCell ⟨m, i, none⟩ (.int .u8 ((c : UInt8).toNat : Int))).drew = W2 := ⟨_, rfl⟩
  rw [hW2] at D2 hO2 ⊢
  clear hW2 hk c0 c1 c3 yf y0
  have c3 := D2.out.c3
  have f3 := D2.out.bk.free 3
  go_wp2_with (fail)
  go_returns
  exact ⟨rfl, D2.out.put3 (h + 1) (by omega) (by omega), hO1.out.trans (hO2.out.putd 3 _)⟩
end
end Go.Proofs.Ytoaiiimnfgbcaaa
