import Derived.Test.YtmmfjonoenmplaaDoorGaA
namespace Go.Proofs.YtmmfjonoenmplaaDoor
open Go.RowKit Go.Extern.Stop Go.Stop Go.Extern
set_option linter.unusedVariables false
set_option linter.unusedSimpArgs false
/-! gauss.Right, clean, asked, told; errors.Is -/
set_option maxRecDepth 100000 in
theorem right_any (x y : Nat) (hx : x < 18446744073709551616) (hy : y < 18446744073709551616) (w : World) : Calls Tryd.prog 28 #[.complex .f64 x y] w fun e w' => ∃ r, e = .returned (.bool r) ∧ (r = true ↔ Rt x ∧ Rt y) ∧ ∃ n, w' = w.drewN n := by
  have h1 := fun w => whole_any x hx w
  have h2 := fun w => whole_any y hy w
  replace h1 := Lib.hid h1
  replace h2 := Lib.hid h2
  go_enter Tryd.func28, Tryd.ntmps28
  go_wp2_with (fail)
  refine (h1.out _).mono ?_
  rintro e w1 ⟨r, rfl, hr, n, hn_⟩
  have hn_ := hn_.symm
  subst hn_
  cases r
  · replace hr := Lib.hid hr
    go_wp2_with (fail)
    go_returns
    exact ⟨false, rfl, ⟨fun h => absurd h (by decide), fun h => absurd (hr.out.2 h.1) (by decide)⟩, n, rfl⟩
  · replace hr := Lib.hid hr
    go_wp2_with (fail)
    refine (h2.out _).mono ?_
    rintro e w1 ⟨r2, rfl, hr2, n2, hn_⟩
    have hn_ := hn_.symm
    subst hn_
    replace hr2 := Lib.hid hr2
    go_wp2_with (fail)
    go_returns
    exact ⟨r2, rfl, ⟨fun h => ⟨hr.out.1 (by trivial), hr2.out.1 h⟩, fun h => hr2.out.2 h.2⟩, n + n2, rfl⟩
theorem add_run {x y r : Nat} (h : Ieee.double.add x y = some r) (t : TypeId) (w : World) : (binOp .add t (.float .f64 x) (.float .f64 y)).run Tryd.prog w = .ok (.float .f64 r) w := run_float_arith w .add t .f64 x y r h
set_option maxRecDepth 100000 in
theorem clean_any (x y : Nat) (a b : Int) (hx : Wd x a) (hy : Wd y b) (w : World) : Calls Tryd.prog 49 #[.complex .f64 x y] w fun e w' => e = .returned (.complex .f64 (fi a false) (fi b false)) ∧ w' = w := by
  have e1 := fun w => add_run (wd_clean hx) 22 w
  have e2 := fun w => add_run (wd_clean hy) 22 w
  clear hx hy
  go_enter Tryd.func49, Tryd.ntmps49
  go_wp2_with (fail)
  go_returns
  exact ⟨rfl, rfl⟩
/-- the numbers of a slice, each by its words -/
def Cs (W : World) (g : Nat) (xs : List (Nat × Nat)) : Prop := ∀ j (h : j < xs.length), W.cell? ⟨g, j, none⟩ = some (.complex .f64 xs[j].1 xs[j].2) ∧ xs[j].1 < 18446744073709551616 ∧ xs[j].2 < 18446744073709551616
def Rts (xs : List (Nat × Nat)) : Prop := ∀ z ∈ xs, Rt z.1 ∧ Rt z.2
def errArg : Value := .iface 29 (.int .i64 1)
set_option maxRecDepth 100000 in
theorem asked_any (g : Nat) (xs : List (Nat × Nat)) (w : World) (h : Cs w g xs) (hl : xs.length ≤ 1000000) : Calls Tryd.prog 47 #[.slice (some ⟨g, 0, none⟩) xs.length xs.length] w fun e w' => ∃ v, e = .returned v ∧ (Rts xs ∧ v = .nilIface ∨ ¬ Rts xs ∧ v = errArg) ∧ ∃ n, w' = w.drewN n := by
  replace h := Lib.hid h
  have hl0 : (xs.length : Int) ≤ 1000000 := by omega
  obtain ⟨m, hm⟩ : ∃ m, xs.length = m := ⟨_, rfl⟩
  rw [hm] at hl0 ⊢
  clear hl
  go_enter Tryd.func47, Tryd.ntmps47
  go_wp2_with (fail)
  go_loopw [7] (fun x wr => ∃ j : Nat, x = .int .i64 j ∧ j ≤ m ∧ Hid ((∀ i (hi : i < xs.length), i < j → Rt xs[i].1 ∧ Rt xs[i].2) ∧ ∃ n, wr = w.drewN n)) (fun x _ => m - (intOf x).toNat)
  case atStart => exact ⟨0, rfl, Nat.zero_le _, Lib.hid ⟨fun i hi h => absurd h (by omega), 0, rfl⟩⟩
  case round =>
    obtain ⟨j, rfl, hj0, hQ⟩ := hrel
    by_cases hj : j < m
    · have j0 : (j : Int) < (m : Int) := by omega
      have j1 : (0 : Int) ≤ (j : Int) := by omega
      have hjl : j < xs.length := by omega
      obtain ⟨c0, b1, b2⟩ := h.out j hjl
      obtain ⟨x, hx⟩ : ∃ x, xs[j].1 = x := ⟨_, rfl⟩
      obtain ⟨y, hy⟩ : ∃ y, xs[j].2 = y := ⟨_, rfl⟩
      rw [hx, hy] at c0
      rw [hx] at b1
      rw [hy] at b2
      obtain ⟨hA, n, hn⟩ := hQ.out
      have c1 : wr.cell? ⟨g, j, none⟩ = some (.complex .f64 x y) := by rw [hn]; exact c0
      have hr := Lib.hid (fun w => right_any x y b1 b2 w)
      have hxy := Lib.hid (⟨hx, hy⟩ : xs[j].1 = x ∧ xs[j].2 = y)
      clear hA hn c0 b1 b2 hx hy
      go_wp2_with (fail)
      refine (hr.out _).mono ?_
      rintro e w1 ⟨r, rfl, hr1, n1, hn1⟩
      replace hr1 := Lib.hid hr1
      replace hn1 := Lib.hid hn1
      cases r
      · go_wp2_with (fail)
        go_returns
        refine ⟨_, rfl, .inr ⟨fun hR => ?_, rfl⟩, ?_⟩
        · have := hR xs[j] (List.getElem_mem hjl)
          rw [hxy.out.1, hxy.out.2] at this
          exact absurd (hr1.out.2 this) (by decide)
        · obtain ⟨hA, n, hn⟩ := hQ.out
          exact ⟨n + n1, by rw [hn1.out, hn, World.drewN_drewN]⟩
      · go_wp2_with (fail)
        refine ⟨⟨j + 1, rfl, by omega, Lib.hid ⟨fun i hi h2 => ?_, ?_⟩⟩, ?_⟩
        · rcases (by omega : i < j ∨ i = j) with h3 | rfl
          · exact hQ.out.1 i hi h3
          · rw [hxy.out.1, hxy.out.2]; exact hr1.out.1 (by trivial)
        · obtain ⟨hA, n, hn⟩ := hQ.out
          exact ⟨n + n1, by rw [hn1.out, hn, World.drewN_drewN]⟩
        · simp [intOf]; omega
    · have j0 : ¬ (j : Int) < (m : Int) := by omega
      go_wp2_with (fail)
      go_returns
      refine ⟨_, rfl, .inl ⟨fun z hz => ?_, rfl⟩, hQ.out.2⟩
      obtain ⟨i, hi, rfl⟩ := List.getElem_of_mem hz
      exact hQ.out.1 i hi (by omega)
theorem eTypeOf (v : Value) (w : World) : (Extern.ReflectliteType.typeOf #[.iface 29 v]).run Tryd.prog w = .ok (.iface 99 (.agg #[.pointer (some ⟨6, 29, none⟩)])) w := by kernel_rfl
theorem eComparable (w : World) : ((Extern.ReflectliteType.method fun t => do Extern.Rtype.noPackHeld "Comparable" t; (fun a => Value.bool a.comparable) <$> typeInfo t) #[.agg #[.pointer (some ⟨6, 29, none⟩)]]).run Tryd.prog w = .ok (.bool true) w := by kernel_rfl
theorem eMethod (v : Value) (w : World) : (Go.method 177 99 v "Comparable").run Tryd.prog w = .ok (114, v) w := by kernel_rfl
theorem eSame (w : World) : (binOp BinOp.eql 72 (.iface 29 (.int .i64 1)) (.iface 29 (.int .i64 1))).run Tryd.prog w = .ok (.bool true) w := by kernel_rfl
theorem eNil (w : World) : (binOp BinOp.eql 72 .nilIface errArg).run Tryd.prog w = .ok (.bool false) w := by kernel_rfl
set_option maxRecDepth 100000 in
theorem is_arg (w : World) :
    Calls Tryd.prog 60 #[errArg, errArg] w fun e w' => e = .returned (.bool true) ∧ w' = w := by
  have h8 := @run_callFunc_extern Tryd.prog 66 _ Extern.ReflectliteType.typeOf Tryd.func66 (by kernel_rfl) (by kernel_rfl) (by kernel_rfl) (by kernel_rfl)
  have h32 := @run_callFunc_extern Tryd.prog 114 _ (Extern.ReflectliteType.method fun t => do Extern.Rtype.noPackHeld "Comparable" t; pure (.bool (← typeInfo t).comparable)) Tryd.func114 (by kernel_rfl) (by kernel_rfl) (by kernel_rfl) (by kernel_rfl)
  have tT := eTypeOf
  have cT := eComparable
  have mR := eMethod
  have eS := eSame
  unfold errArg
  go_enter Tryd.func60, Tryd.ntmps60
  go_wp2
  refine wp_loop_rounds 1 ?_
  rw [rounds_succ]
  go_wp2
  go_returns
  exact ⟨rfl, rfl⟩
set_option maxRecDepth 100000 in
theorem is_nil (w : World) :
    Calls Tryd.prog 60 #[.nilIface, errArg] w fun e w' => e = .returned (.bool false) ∧ w' = w := by
  have eN := eNil
  unfold errArg at *
  go_enter Tryd.func60, Tryd.ntmps60
  go_wp2
  go_returns
  exact ⟨rfl, rfl⟩
set_option maxRecDepth 100000 in
theorem told_arg (v : Value) (w : World) : Calls Tryd.prog 51 #[v, errArg] w fun e w' => e = .returned (.tuple #[.complex .f64 0 0, .int .i64 1]) ∧ w' = w := by
  have h1 := Lib.hid (fun w => is_arg w)
  unfold errArg at h1 ⊢
  go_enter Tryd.func51, Tryd.ntmps51
  go_wp2_with (fail)
  refine (h1.out _).mono ?_
  rintro e w1 ⟨rfl, hw_⟩
  have hw_ := hw_.symm
  subst hw_
  go_wp2_with (fail)
  go_returns
  exact ⟨rfl, rfl⟩
/-- a result: its number, or that it is out of range -/
def toldV (a b : Int) : Value := if a.natAbs ≤ 16777216 ∧ b.natAbs ≤ 16777216 then .tuple #[.complex .f64 (fi a false) (fi b false), .int .i64 0] else .tuple #[.complex .f64 0 0, .int .i64 8]
set_option maxRecDepth 100000 in
theorem told_nil (x y : Nat) (a b : Int) (hx : Wd x a) (hy : Wd y b) (w : World) : Calls Tryd.prog 51 #[.complex .f64 x y, .nilIface] w fun e w' => e = .returned (toldV a b) ∧ ∃ n, w' = w.drewN n := by
  have h1 := Lib.hid (fun w => is_nil w)
  have h2 := Lib.hid (fun w => right_any x y (wd_lt hx) (wd_lt hy) w)
  have h3 := Lib.hid (fun w => clean_any x y a b hx hy w)
  have hiff : Rt x ∧ Rt y ↔ a.natAbs ≤ 16777216 ∧ b.natAbs ≤ 16777216 := by rw [wd_rt hx, wd_rt hy]
  replace hiff := Lib.hid hiff
  clear hx hy
  unfold errArg at h1
  go_enter Tryd.func51, Tryd.ntmps51
  go_wp2_with (fail)
  refine (h1.out _).mono ?_
  rintro e w1 ⟨rfl, hw_⟩
  have hw_ := hw_.symm
  subst hw_
  go_wp2_with (fail)
  refine (h2.out _).mono ?_
  rintro e w1 ⟨r, rfl, hr, n, hn_⟩
  have hn_ := hn_.symm
  subst hn_
  replace hr := Lib.hid hr
  cases r
  · go_wp2_with (fail)
    go_returns
    refine ⟨?_, n, rfl⟩
    unfold toldV
    rw [if_neg (fun h => absurd (hr.out.2 (hiff.out.2 h)) (by decide))]
    rfl
  · go_wp2_with (fail)
    refine (h3.out _).mono ?_
    rintro e w1 ⟨rfl, hw_⟩
    have hw_ := hw_.symm
    subst hw_
    go_wp2_with (fail)
    go_returns
    refine ⟨?_, n, rfl⟩
    unfold toldV
    rw [if_pos (hiff.out.1 (hr.out.1 (by trivial)))]
    rfl
end Go.Proofs.YtmmfjonoenmplaaDoor
