import Derived.Test.YtmmfjonoenmplaaDoorGaN
import Derived.Test.YtmmfjonoenmplaaDoorPick
namespace Go.Proofs.YtmmfjonoenmplaaDoor
open Go.RowKit Go.Extern.Stop Go.Stop Go.Extern
set_option linter.unusedVariables false
set_option linter.unusedSimpArgs false
/-! the law's made; the program's functions on clean numbers -/
set_option maxRecDepth 100000 in
theorem made_any (a b m : Int) (ha : -9223372036854775808 ≤ a ∧ a ≤ 9223372036854775807) (hb : -9223372036854775808 ≤ b ∧ b ≤ 9223372036854775807) (hm : 0 ≤ m ∧ m ≤ 16777216) (w : World) :
    Calls Tryd.prog 38 #[.int .i64 a, .int .i64 b, .int .i64 m] w fun e w' => (∃ z, e = .returned (cw z) ∧ Sm z m) ∧ w' = w := by
  have w1 : IntKind.i64.wrap (2 * m) = 2 * m := by rw [IntKind.wrap_i64]; omega
  have w2 : IntKind.i64.wrap (2 * m + 1) = 2 * m + 1 := by rw [IntKind.wrap_i64]; omega
  have p1 := Lib.hid (fun w => pick_any a (2 * m + 1) w ha.1 ha.2 (by omega) (by omega))
  have p2 := Lib.hid (fun w => pick_any b (2 * m + 1) w hb.1 hb.2 (by omega) (by omega))
  have l1 := pickN_lt a (2 * m + 1).toNat (by omega)
  have l2 := pickN_lt b (2 * m + 1).toNat (by omega)
  obtain ⟨x, hx⟩ : ∃ x : Nat, pickN a (2 * m + 1).toNat = x := ⟨_, rfl⟩
  obtain ⟨y, hy⟩ : ∃ y : Nat, pickN b (2 * m + 1).toNat = y := ⟨_, rfl⟩
  rw [hx] at p1 l1
  rw [hy] at p2 l2
  have w3 : IntKind.i64.wrap ((x : Int) - m) = (x : Int) - m := by rw [IntKind.wrap_i64]; omega
  have w4 : IntKind.i64.wrap ((y : Int) - m) = (y : Int) - m := by rw [IntKind.wrap_i64]; omega
  have hs : Sm ((x : Int) - m, (y : Int) - m) m := by unfold Sm; simp only; omega
  have ho := fun w => of_all ((x : Int) - m, (y : Int) - m) w
  have hr : res ((x : Int) - m, (y : Int) - m) = .tuple #[cw ((x : Int) - m, (y : Int) - m), .int .i64 0] := res_small _ (sm_mono hs (by omega))
  rw [hr] at ho
  simp only at ho
  replace ho := Lib.hid ho
  replace hs := Lib.hid hs
  obtain ⟨v, hv⟩ : ∃ v, cw ((x : Int) - m, (y : Int) - m) = v := ⟨_, rfl⟩
  rw [hv] at ho
  replace hv := Lib.hid hv
  clear ha hb hm l1 l2 hx hy hr
  go_enter Tryd.func38, Tryd.ntmps38
  go_wp2_with (fail)
  refine (p1.out _).mono ?_
  rintro e wa ⟨rfl, hw_⟩
  have hw_ := hw_.symm
  subst hw_
  go_wp2_with (fail)
  refine (p2.out _).mono ?_
  rintro e wa ⟨rfl, hw_⟩
  have hw_ := hw_.symm
  subst hw_
  go_wp2_with (fail)
  refine (ho.out _).mono ?_
  rintro e wa ⟨rfl, hw_⟩
  have hw_ := hw_.symm
  subst hw_
  go_wp2_with (fail)
  go_returns
  exact ⟨⟨_, congrArg _ hv.out.symm, hs.out⟩, rfl⟩
section
variable (a b : Int × Int) (ha : Sm a 16777216) (hb : Sm b 16777216)
theorem cw_nm {a : Int × Int} (ha : Sm a 16777216) : Nm (fi a.1 false, fi a.2 false) a := nm_cw a (sm_mono ha (by decide))
theorem drewN_below {n : Nat} (w : World) : Below w.heap.size w (w.drewN n) := ⟨rfl, rfl, rfl, Nat.le_refl _, fun _ _ => rfl⟩
include ha in
theorem cw_lt : fi a.1 false < 18446744073709551616 ∧ fi a.2 false < 18446744073709551616 := nm_lt (cw_nm ha)
include ha hb
theorem mulc (hr : Sm (mulZ a b) 16777216) (w : World) : Calls Tryd.prog 22 #[cw a, cw b] w fun e w' => e = .returned (.tuple #[cw (mulZ a b), .int .i64 0]) ∧ Below w.heap.size w w' := by
  rw [← res_small _ hr]
  exact mul_ok (fi a.1 false, fi a.2 false) (fi b.1 false, fi b.2 false) a b (cw_nm ha) (cw_nm hb) ha hb w
theorem addc (hr : Sm (a.1 + b.1, a.2 + b.2) 16777216) (w : World) : Calls Tryd.prog 20 #[cw a, cw b] w fun e w' => e = .returned (.tuple #[cw (a.1 + b.1, a.2 + b.2), .int .i64 0]) ∧ Below w.heap.size w w' := by
  rw [← res_small _ hr]
  exact add_ok (fi a.1 false, fi a.2 false) (fi b.1 false, fi b.2 false) a b (cw_nm ha) (cw_nm hb) ha hb w
theorem gcdc (w : World) : Calls Tryd.prog 16 #[cw a, cw b] w fun e w' => e = .returned (.tuple #[cw (firstZ (gcdZ a b)), .int .i64 0]) ∧ Below w.heap.size w w' := by
  exact gcd_ok (fi a.1 false, fi a.2 false) (fi b.1 false, fi b.2 false) a b (cw_nm ha) (cw_nm hb) ha hb w
omit hb
theorem normc (w : World) : Calls Tryd.prog 34 #[cw a] w fun e w' => e = .returned (.tuple #[.int .i64 (normZ a), .int .i64 0]) ∧ Below w.heap.size w w' := by
  refine (norm_ok (fi a.1 false, fi a.2 false) a (cw_nm ha) ha w).mono ?_
  rintro e w' ⟨h, n, rfl⟩
  exact ⟨h, drewN_below w⟩
theorem conjc (w : World) : Calls Tryd.prog 31 #[cw a] w fun e w' => e = .returned (.tuple #[cw (a.1, -a.2), .int .i64 0]) ∧ Below w.heap.size w w' := by
  rw [← res_small (a.1, -a.2) (by unfold Sm at *; simp only; omega)]
  exact conj_ok (fi a.1 false, fi a.2 false) a (cw_nm ha) ha w
theorem turnc (n : Int) (w : World) : Calls Tryd.prog 32 #[cw a, .int .i64 n] w fun e w' => e = .returned (.tuple #[cw (turnZ a n), .int .i64 0]) ∧ Below w.heap.size w w' :=
  turn_ok (fi a.1 false, fi a.2 false) a n (cw_nm ha) ha w
theorem firstc (w : World) : Calls Tryd.prog 33 #[cw a] w fun e w' => e = .returned (.tuple #[cw (firstZ a), .int .i64 0]) ∧ Below w.heap.size w w' :=
  first_ok (fi a.1 false, fi a.2 false) a (cw_nm ha) ha w
theorem ne_self (w : World) : (binOp .neq 28 (cw a) (cw a)).run Tryd.prog w = .ok (.bool false) w := by
  unfold Sm at ha
  have h1 := fi_self a.1 (by omega)
  have h2 := fi_self a.2 (by omega)
  unfold cw
  rw [run_neq_complex, h1, h2]
  rfl
theorem eq_self (w : World) : (binOp .eql 28 (cw a) (cw a)).run Tryd.prog w = .ok (.bool true) w := by
  unfold Sm at ha
  have h1 := fi_self a.1 (by omega)
  have h2 := fi_self a.2 (by omega)
  unfold cw
  rw [run_eql_complex, h1, h2]
  rfl
end
end Go.Proofs.YtmmfjonoenmplaaDoor
