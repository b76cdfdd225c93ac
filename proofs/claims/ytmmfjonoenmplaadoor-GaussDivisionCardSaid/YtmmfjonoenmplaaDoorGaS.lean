import Derived.Test.YtmmfjonoenmplaaDoorGaR
namespace Go.Proofs.YtmmfjonoenmplaaDoor
open Go.RowKit Go.Extern.Stop Go.Stop Go.Extern
set_option linter.unusedVariables false
set_option linter.unusedSimpArgs false
/-! the walk of GaussDivision -/
def C3 (f : Nat) (a b q r : Value) : Prop := ∀ w, Calls Tryd.prog f #[a, b] w fun e w' => e = .returned (.tuple #[q, r, .int .i64 0]) ∧ Below w.heap.size w w'
/-- is the number 0? -/
def Zt (v : Value) (b : Bool) : Prop := ∃ r i, v = .complex .f64 r i ∧ ((FloatKind.f64.format.order r 0 == some .eq) && (FloatKind.f64.format.order i 0 == some .eq)) = b
/-- a number in the first quarter -/
def Hd (v : Value) : Prop := ∃ r i, v = .complex .f64 r i ∧ (FloatKind.f64.format.order r 0 == some .eq) = false ∧ (FloatKind.f64.format.order r 0 == some .lt) = false ∧ (FloatKind.f64.format.order i 0 == some .lt) = false
theorem lt_zero {x : Nat} {a : Int} (hx : Wd x a) : (FloatKind.f64.format.order x 0 == some .lt) = decide (a < 0) := by
  have h : FloatKind.f64.format.order x 0 = some (compare a 0) := wd_order hx wd_zero
  rw [h]
  by_cases h0 : a < 0
  · rw [decide_eq_true h0, Int.compare_eq_lt.2 h0]; rfl
  · rw [decide_eq_false h0]
    have : compare a 0 ≠ .lt := fun e => h0 (Int.compare_eq_lt.1 e)
    simpa using this
theorem zt_cw {a : Int × Int} (ha : Sm a 16777216) : Zt (cw a) (decide (a = (0, 0))) := by
  have hn := cw_nm ha
  refine ⟨_, _, rfl, ?_⟩
  have e1 := eq_zero hn.1
  have e2 := eq_zero hn.2
  simp only at e1 e2
  rw [e1, e2]
  obtain ⟨a1, a2⟩ := a
  by_cases h1 : a1 = 0 <;> by_cases h2 : a2 = 0 <;> simp [h1, h2]
theorem zt_yes {a : Int × Int} (ha : Sm a 16777216) (h : a = (0, 0)) : Zt (cw a) true := by
  have g := zt_cw ha
  rw [decide_eq_true h] at g
  exact g
theorem zt_no {a : Int × Int} (ha : Sm a 16777216) (h : a ≠ (0, 0)) : Zt (cw a) false := by
  have g := zt_cw ha
  rw [decide_eq_false h] at g
  exact g
theorem hd_cw {a : Int × Int} (ha : Sm a 16777216) (h : headZ a) : Hd (cw a) := by
  have hn := cw_nm ha
  have e1 := eq_zero hn.1
  have e2 := lt_zero hn.1
  have e3 := lt_zero hn.2
  have h1 : 0 < a.1 := h.1
  have h2 : 0 ≤ a.2 := h.2
  rw [decide_eq_false (by omega)] at e1 e2 e3
  exact ⟨_, _, rfl, e1, e2, e3⟩
theorem divc {a b : Int × Int} (ha : Sm a 16777216) (hb : Sm b 16777216) (h0 : b ≠ (0, 0)) : C3 15 (cw a) (cw b) (cw (divQ a b)) (cw (divR a b)) := fun w =>
  div_ok (fi a.1 false, fi a.2 false) (fi b.1 false, fi b.2 false) a b (cw_nm ha) (cw_nm hb) ha hb h0 w
theorem cw_zero : cw (0, 0) = .complex .f64 0 0 := by
  unfold cw
  simp only [fi_zero]
theorem divc_dv {a b : Int × Int} (ha : Sm a 16777216) (hb : Sm b 16777216) (h0 : b ≠ (0, 0)) (h : Dv b a) : ∃ q, C3 15 (cw a) (cw b) q (.complex .f64 0 0) := by
  have g := divc ha hb h0
  rw [dv_left h h0, cw_zero] at g
  exact ⟨_, g⟩
theorem part1_facts (x y : Int × Int) (hx : Sm x 2000) (hy : Sm y 2000) (h0 : y ≠ (0, 0)) : ∃ (q r p : Value) (m n : Int), C3 15 (cw x) (cw y) q r ∧ C2 22 q (cw y) p ∧ C2 20 p r (cw x) ∧ C1 34 r (.int .i64 m) ∧ C1 34 (cw y) (.int .i64 n) ∧ (0 ≤ m ∧ 2 * m ≤ n ∧ n ≤ 8000000) := by
  have X := sm_mono hx (show (2000 : Int) ≤ 16777216 by decide)
  have Y := sm_mono hy (show (2000 : Int) ≤ 16777216 by decide)
  have hr := rem_norm x y h0
  have hn := normZ_le hy
  have hm := norm_nonneg (divR x y)
  have R : Sm (divR x y) 2000 := norm_sm (by decide) (by omega)
  have R' := sm_mono R (show (2000 : Int) ≤ 16777216 by decide)
  have Q := sm_mono (divQ_le (by decide) hx h0) (show (2000 : Int) ≤ 16777216 by decide)
  have hb := divR_back x y
  have b1 : (mulZ (divQ x y) y).1 + (divR x y).1 = x.1 := congrArg Prod.fst hb
  have b2 : (mulZ (divQ x y) y).2 + (divR x y).2 = x.2 := congrArg Prod.snd hb
  have P : Sm (mulZ (divQ x y) y) 16777216 := by unfold Sm at *; omega
  refine ⟨_, _, _, _, _, divc X Y h0, mulc _ _ Q Y P, ?_, normc _ R', normc y Y, hm, hr, by omega⟩
  have g := addc _ _ P R' (by rw [b1, b2]; exact X)
  rw [b1, b2] at g
  exact g
theorem part2_facts (x y z : Int × Int) (hx : Sm x 2000) (hy : Sm y 2000) (hz : Sm z 2000) : ∃ (xz yz d : Value), C2 22 (cw x) (cw z) xz ∧ C2 22 (cw y) (cw z) yz ∧ C2 16 xz yz d ∧
    ((Zt d true ∧ Zt xz true ∧ Zt yz true) ∨ (Hd d ∧ (∃ q, C3 15 xz d q (.complex .f64 0 0)) ∧ (∃ q, C3 15 yz d q (.complex .f64 0 0)) ∧ (z ≠ (0, 0) → ∃ q, C3 15 d (cw z) q (.complex .f64 0 0)))) := by
  have X := sm_mono hx (show (2000 : Int) ≤ 16777216 by decide)
  have Y := sm_mono hy (show (2000 : Int) ≤ 16777216 by decide)
  have Z := sm_mono hz (show (2000 : Int) ≤ 16777216 by decide)
  have XZ := sm_mono (mulZ_sm hx hz) (show 2 * ((2000 : Int) * 2000) ≤ 16777216 by decide)
  have YZ := sm_mono (mulZ_sm hy hz) (show 2 * ((2000 : Int) * 2000) ≤ 16777216 by decide)
  have G := gcd_sm XZ YZ
  refine ⟨_, _, _, mulc _ _ X Z XZ, mulc _ _ Y Z YZ, gcdc _ _ XZ YZ, ?_⟩
  have d1 : Dv (firstZ (gcdZ (mulZ x z) (mulZ y z))) (mulZ x z) := (dv_first _).trans (gcd_dv1 _ _)
  have d2 : Dv (firstZ (gcdZ (mulZ x z) (mulZ y z))) (mulZ y z) := (dv_first _).trans (gcd_dv2 _ _)
  have d3 : Dv z (firstZ (gcdZ (mulZ x z) (mulZ y z))) := (gcd_most _ _ _ ⟨x, rfl⟩ ⟨y, rfl⟩).trans (first_dv _)
  by_cases h0 : gcdZ (mulZ x z) (mulZ y z) = (0, 0)
  · left
    have e : firstZ (gcdZ (mulZ x z) (mulZ y z)) = (0, 0) := by rw [h0]; rfl
    have d1' := d1
    have d2' := d2
    rw [e] at d1' d2'
    exact ⟨zt_yes G e, zt_yes XZ (dv_zero_only d1'), zt_yes YZ (dv_zero_only d2')⟩
  · right
    have hh := first_head _ h0
    have e : firstZ (gcdZ (mulZ x z) (mulZ y z)) ≠ (0, 0) := fun e => by
      rw [e] at hh
      exact absurd hh.1 (by decide)
    exact ⟨hd_cw G hh, divc_dv XZ G e d1, divc_dv YZ G e d2, fun hz0 => divc_dv G Z hz0 d3⟩
end Go.Proofs.YtmmfjonoenmplaaDoor
