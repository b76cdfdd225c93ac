import Derived.Test.YtmmfjonoenmplaaDoorProg
import Derived.Test.YtmmfjonoenmplaaDoorBlk
import Derived.Test.YtmmfjonoenmplaaDoorFlA
import Derived.WalkLawsBesides
import Derived.Laws.ComplexArith
import Derived.Stop.Asserts
import Derived.LaidEql
namespace Go.Proofs.YtmmfjonoenmplaaDoor
open Go.RowKit Go.Extern.Stop Go.Stop Go.Extern
set_option linter.unusedVariables false
set_option linter.unusedSimpArgs false
/-! math.Trunc, math.Abs, gauss.whole, Right, clean -/
/-- the word x stands for the whole number z (of 0 the sign is free) -/
def Wd (x : Nat) (z : Int) : Prop := z.natAbs < 9007199254740992 ∧ ∃ s, x = fw s z.natAbs ∧ sg s z.natAbs = z
theorem wd_fi (z : Int) (s : Bool) (h : z.natAbs < 9007199254740992) : Wd (fi z s) z := ⟨h, fi_is z s⟩
theorem wd_add {x y : Nat} {a b : Int} (hx : Wd x a) (hy : Wd y b) (h : (a + b).natAbs < 9007199254740992) : ∃ r, Ieee.double.add x y = some r ∧ Wd r (a + b) := by
  obtain ⟨ha, s, rfl, hs⟩ := hx
  obtain ⟨hb, t, rfl, ht⟩ := hy
  exact ⟨_, fw_add ha hb (by rw [hs, ht]; exact h), by rw [hs, ht]; exact wd_fi _ _ h⟩
theorem wd_sub {x y : Nat} {a b : Int} (hx : Wd x a) (hy : Wd y b) (h : (a - b).natAbs < 9007199254740992) : ∃ r, Ieee.double.sub x y = some r ∧ Wd r (a - b) := by
  obtain ⟨ha, s, rfl, hs⟩ := hx
  obtain ⟨hb, t, rfl, ht⟩ := hy
  exact ⟨_, fw_sub ha hb (by rw [hs, ht]; exact h), by rw [hs, ht]; exact wd_fi _ _ h⟩
theorem sg_mul (s t : Bool) (n m : Nat) : sg (s ^^ t) (n * m) = sg s n * sg t m := by
  cases s <;> cases t <;> simp [sg, Int.neg_mul, Int.mul_neg]
theorem wd_mul {x y : Nat} {a b : Int} (hx : Wd x a) (hy : Wd y b) (h : (a * b).natAbs < 9007199254740992) : ∃ r, Ieee.double.mul x y = some r ∧ Wd r (a * b) := by
  obtain ⟨ha, s, rfl, hs⟩ := hx
  obtain ⟨hb, t, rfl, ht⟩ := hy
  have e : (a * b).natAbs = a.natAbs * b.natAbs := Int.natAbs_mul ..
  refine ⟨_, fw_mul ha hb (by rw [← e]; exact h), h, _, by rw [e], ?_⟩
  rw [e, sg_mul, hs, ht]
theorem wd_neg {x : Nat} {a : Int} (hx : Wd x a) : Wd (Op.negFloat .f64 x) (-a) := by
  obtain ⟨ha, s, rfl, hs⟩ := hx
  refine ⟨by omega, !s, ?_, ?_⟩
  · rw [fw_neg s ha, Int.natAbs_neg]
  · rw [Int.natAbs_neg, sg_not, hs]
theorem wd_order {x y : Nat} {a b : Int} (hx : Wd x a) (hy : Wd y b) : Ieee.double.order x y = some (compare a b) := by
  obtain ⟨ha, s, rfl, hs⟩ := hx
  obtain ⟨hb, t, rfl, ht⟩ := hy
  rw [fw_order ha hb, hs, ht]
theorem wd_toInt {x : Nat} {a : Int} (hx : Wd x a) : (Ieee.double.read x).toInt .zero = some a := by
  obtain ⟨ha, s, rfl, hs⟩ := hx
  rw [fw_toInt ha, hs]
theorem wd_uniq {x : Nat} {a b : Int} (hx : Wd x a) (hy : Wd x b) : a = b := by
  have h1 := wd_toInt hx
  have h2 := wd_toInt hy
  rw [h1] at h2
  injection h2
theorem wd_lt {x : Nat} {a : Int} (hx : Wd x a) : x < 18446744073709551616 := by
  obtain ⟨ha, s, rfl, hs⟩ := hx
  exact fw_lt s ha
/-- plus 0: the word without a -0 -/
theorem wd_clean {x : Nat} {a : Int} (hx : Wd x a) : Ieee.double.add x 0 = some (fi a false) := by
  obtain ⟨ha, s, rfl, hs⟩ := hx
  have := fw_add (s := s) (t := false) (n := a.natAbs) (m := 0) ha (by decide) (by rw [hs]; simp [sg]; exact ha)
  rw [hs] at this
  simpa [sg, fw, rungOf] using this
theorem rt_wd (x : Nat) : Rt x ↔ ∃ z : Int, z.natAbs ≤ 16777216 ∧ Wd x z := by
  constructor
  · rintro ⟨s, n, hn, rfl⟩
    exact ⟨sg s n, by rw [sg_abs]; exact hn, by rw [sg_abs]; omega, s, by rw [sg_abs], by rw [sg_abs]⟩
  · rintro ⟨z, hz, _, s, rfl, _⟩
    exact ⟨s, _, hz, rfl⟩
theorem wd_rt {x : Nat} {z : Int} (h : Wd x z) : Rt x ↔ z.natAbs ≤ 16777216 := by
  rw [rt_wd]
  constructor
  · rintro ⟨y, hy, h2⟩
    rw [wd_uniq h h2]; exact hy
  · intro hz; exact ⟨z, hz, h⟩
theorem wd_int (z : Int) (h : z.natAbs < 9007199254740992) : floatOfInt .f64 z = fi z false := of_int z h
/-! the walks -/
set_option maxRecDepth 100000 in
theorem trunc_num (x : Nat) (h : (Ieee.double.read x).isNaN = false) (w : World) : Calls Tryd.prog 61 #[.float .f64 x] w fun e w' => e = .returned (.float .f64 (Ieee.double.write ((Ieee.double.read x).integral .zero))) ∧ w' = w := by
  have h68 := @run_callFunc_extern Tryd.prog 68 _ (Extern.MathFloor.toIntegral "math.archTrunc" .zero) Tryd.func68 (by kernel_rfl) (by kernel_rfl) (by kernel_rfl) (by kernel_rfl)
  have hr : ∀ w, (Extern.MathFloor.toIntegral "math.archTrunc" .zero #[.float .f64 x]).run Tryd.prog w = .ok (.float .f64 (Ieee.double.write ((Ieee.double.read x).integral .zero))) w := by
    intro w
    have hdef : Extern.MathFloor.toIntegral "math.archTrunc" .zero #[.float .f64 x] = (match Ieee.double.read x with
      | .nan s t => if FloatKind.f64.format.quiet t = t then pure (.float .f64 x) else (do
          let kept ← choose (.extern "math.Floor,Ceil,Trunc,RoundToEven.signallingNaN kept" 2)
          pure (.float .f64 (if kept == 1 then x else FloatKind.f64.encode (.nan s (FloatKind.f64.format.quiet t)))))
      | d => pure (.float .f64 (FloatKind.f64.encode (d.integral .zero)))) := rfl
    rw [hdef]
    cases hd : Ieee.double.read x with
    | nan a b => rw [hd] at h; cases h
    | infinity a => rfl
    | number a b c => rfl
  obtain ⟨y, hy⟩ : ∃ y, Ieee.double.write ((Ieee.double.read x).integral .zero) = y := ⟨_, rfl⟩
  rw [hy]
  simp only [hy] at hr
  clear hy h
  go_enter Tryd.func61, Tryd.ntmps61
  go_wp2_with (fail)
  go_returns
  exact ⟨rfl, rfl⟩
set_option maxRecDepth 100000 in
theorem trunc_nan (x : Nat) (h : (Ieee.double.read x).isNaN = true) (w : World) : Calls Tryd.prog 61 #[.float .f64 x] w fun e w' => ∃ y, e = .returned (.float .f64 y) ∧ ∃ n, w' = w.drewN n := by
  have h68 := @run_callFunc_extern Tryd.prog 68 _ (Extern.MathFloor.toIntegral "math.archTrunc" .zero) Tryd.func68 (by kernel_rfl) (by kernel_rfl) (by kernel_rfl) (by kernel_rfl)
  have hr : ∃ y n, (Extern.MathFloor.toIntegral "math.archTrunc" .zero #[.float .f64 x]).run Tryd.prog w = .ok (.float .f64 y) (w.drewN n) := by
    have hdef : Extern.MathFloor.toIntegral "math.archTrunc" .zero #[.float .f64 x] = (match Ieee.double.read x with
      | .nan s t => if FloatKind.f64.format.quiet t = t then pure (.float .f64 x) else (do
          let kept ← choose (.extern "math.Floor,Ceil,Trunc,RoundToEven.signallingNaN kept" 2)
          pure (.float .f64 (if kept == 1 then x else FloatKind.f64.encode (.nan s (FloatKind.f64.format.quiet t)))))
      | d => pure (.float .f64 (FloatKind.f64.encode (d.integral .zero)))) := rfl
    rw [hdef]
    cases hd : Ieee.double.read x with
    | nan a b =>
      by_cases hq : FloatKind.f64.format.quiet b = b
      · exact ⟨x, 0, by simp [hq, World.drewN]⟩
      · obtain ⟨k, hk⟩ : ∃ k, (choose (.extern "math.Floor,Ceil,Trunc,RoundToEven.signallingNaN kept" 2)).run Tryd.prog w = .ok k w.drew := ⟨_, rfl⟩
        refine ⟨if k == 1 then x else FloatKind.f64.encode (.nan a (FloatKind.f64.format.quiet b)), 1, ?_⟩
        simp only [if_neg hq, Sem.run_bind, hk]
        rfl
    | infinity a => rw [hd] at h; cases h
    | number a b c => rw [hd] at h; cases h
  obtain ⟨y, n, hr⟩ := hr
  go_enter Tryd.func61, Tryd.ntmps61
  go_wp2_with (fail)
  go_returns
  exact ⟨y, rfl, n, rfl⟩
set_option maxRecDepth 100000 in
theorem abs_any (x : Nat) (hx : x < 18446744073709551616) (w : World) : Calls Tryd.prog 55 #[.float .f64 x] w fun e w' => e = .returned (.float .f64 (x % 9223372036854775808)) ∧ w' = w := by
  have h1 := @run_callFunc_extern Tryd.prog 63 _ Extern.MathFloatBits.float64bits Tryd.func63 (by kernel_rfl) (by kernel_rfl) (by kernel_rfl) (by kernel_rfl)
  have h2 := @run_callFunc_extern Tryd.prog 62 _ Extern.MathFloatBits.float64frombits Tryd.func62 (by kernel_rfl) (by kernel_rfl) (by kernel_rfl) (by kernel_rfl)
  have r1 : ∀ w, (Extern.MathFloatBits.float64bits #[.float .f64 x]).run Tryd.prog w = .ok (.int .u64 (x : Int)) w := fun w => rfl
  have hb : bits .andNot .u64 (x : Int) 9223372036854775808 = ((x % 9223372036854775808 : Nat) : Int) := by
    have := u64_andNot_nat x 9223372036854775808 (by simpa using hx) (by decide)
    have e : x &&& (18446744073709551615 - 9223372036854775808) = x % 9223372036854775808 := Nat.and_two_pow_sub_one_eq_mod x 63
    rw [e] at this
    exact this
  obtain ⟨y, hy⟩ : ∃ y, x % 9223372036854775808 = y := ⟨_, rfl⟩
  rw [hy] at hb ⊢
  have r2 : ∀ w, (Extern.MathFloatBits.float64frombits #[.int .u64 (y : Int)]).run Tryd.prog w = .ok (.float .f64 y) w := fun w => rfl
  clear hy
  go_enter Tryd.func55, Tryd.ntmps55
  go_wp2_with (fail)
  go_returns
  exact ⟨rfl, rfl⟩
theorem f64_double : FloatKind.f64.format = Ieee.double := rfl
set_option maxRecDepth 100000 in
theorem whole_any (x : Nat) (hx : x < 18446744073709551616) (w : World) : Calls Tryd.prog 53 #[.float .f64 x] w fun e w' => ∃ r, e = .returned (.bool r) ∧ (r = true ↔ Rt x) ∧ ∃ n, w' = w.drewN n := by
  cases hn : (Ieee.double.read x).isNaN
  · have hd := whole_dec hx hn
    have ht := fun w => trunc_num x hn w
    have ha := fun w => abs_any x hx w
    obtain ⟨y, hy⟩ : ∃ y, Ieee.double.write ((Ieee.double.read x).integral .zero) = y := ⟨_, rfl⟩
    rw [hy] at hd
    simp only [hy] at ht
    obtain ⟨z, hz⟩ : ∃ z, x % 9223372036854775808 = z := ⟨_, rfl⟩
    rw [hz, mxW] at hd
    simp only [hz] at ha
    obtain ⟨A, hA⟩ : ∃ A, (FloatKind.f64.format.order x y == some .eq) = A := ⟨_, rfl⟩
    obtain ⟨C, hC⟩ : ∃ C, (FloatKind.f64.format.order z 4715268809856909312 == some .lt || FloatKind.f64.format.order z 4715268809856909312 == some .eq) = C := ⟨_, rfl⟩
    rw [← f64_double, hA, hC] at hd
    replace ht := Lib.hid ht
    replace ha := Lib.hid ha
    replace hd := Lib.hid hd
    clear hy hz hn
    cases A
    · go_enter Tryd.func53, Tryd.ntmps53
      go_wp2_with (fail)
      refine (ht.out _).mono ?_
      rintro e w1 ⟨rfl, hw_⟩
      have hw_ := hw_.symm
      subst hw_
      go_wp2_with (fail)
      go_returns
      exact ⟨false, rfl, hd.out, 0, rfl⟩
    · go_enter Tryd.func53, Tryd.ntmps53
      go_wp2_with (fail)
      refine (ht.out _).mono ?_
      rintro e w1 ⟨rfl, hw_⟩
      have hw_ := hw_.symm
      subst hw_
      go_wp2_with (fail)
      refine (ha.out _).mono ?_
      rintro e w1 ⟨rfl, hw_⟩
      have hw_ := hw_.symm
      subst hw_
      cases C
      · go_wp2_with (fail)
        go_returns
        exact ⟨false, rfl, hd.out, 0, rfl⟩
      · go_wp2_with (fail)
        go_returns
        exact ⟨true, rfl, hd.out, 0, rfl⟩
  · have ht := Lib.hid (fun w => trunc_nan x hn w)
    have hno : ∀ y, FloatKind.f64.format.order x y = none := fun y => nan_order hn
    have hnr : ¬ Rt x := fun h => by rw [rt_not_nan h] at hn; cases hn
    replace hnr := Lib.hid hnr
    clear hn
    go_enter Tryd.func53, Tryd.ntmps53
    go_wp2_with (fail)
    refine (ht.out _).mono ?_
    rintro e w1 ⟨y, rfl, n, hn_⟩
    have hn_ := hn_.symm
    subst hn_
    go_wp2_with (fail)
    go_returns
    exact ⟨false, rfl, by simpa using hnr.out, n, rfl⟩
end Go.Proofs.YtmmfjonoenmplaaDoor
