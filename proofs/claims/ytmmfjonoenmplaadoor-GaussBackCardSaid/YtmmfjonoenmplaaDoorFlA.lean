import Derived.Laws.ComplexArith
namespace Go.Proofs.YtmmfjonoenmplaaDoor
open Ieee
set_option linter.unusedVariables false
set_option linter.unusedSimpArgs false
/-! whole numbers below 2^53 as words of double: exact -/
theorem d_lp : double.leastPlace = -1074 := by decide +kernel
theorem d_bin : double.binade = 4503599627370496 := by decide +kernel
theorem d_inf : double.infRung = 9218868437227405312 := by decide +kernel
theorem d_sw : double.signWeight = 9223372036854775808 := by decide +kernel
theorem d_fb : double.fractionBits = 52 := rfl
theorem d_w : double.width = 64 := rfl
/-- the rung of a whole number -/
def rungOf (n : Nat) : Nat := if n = 0 then 0 else (n.log2 + 1022) * 4503599627370496 + n * 2 ^ (52 - n.log2)
/-- the word of a whole number with its sign -/
def fw (s : Bool) (n : Nat) : Nat := if s then 9223372036854775808 + rungOf n else rungOf n
theorem log_le {n : Nat} (h0 : n ≠ 0) (h : n < 9007199254740992) : n.log2 ≤ 52 := by
  have := (Nat.log2_lt h0 (k := 53)).2 (by simpa using h)
  omega
theorem scaled {n : Nat} (h0 : n ≠ 0) (h : n < 9007199254740992) : 4503599627370496 ≤ n * 2 ^ (52 - n.log2) ∧ n * 2 ^ (52 - n.log2) < 9007199254740992 := by
  have hl := log_le h0 h
  have h1 := Nat.log2_self_le h0
  have h2 := Nat.lt_log2_self (n := n)
  constructor
  · calc 4503599627370496 = 2 ^ (n.log2 + (52 - n.log2)) := by rw [show n.log2 + (52 - n.log2) = 52 by omega]
      _ = 2 ^ n.log2 * 2 ^ (52 - n.log2) := Nat.pow_add ..
      _ ≤ _ := Nat.mul_le_mul_right _ h1
  · calc n * 2 ^ (52 - n.log2) < 2 ^ (n.log2 + 1) * 2 ^ (52 - n.log2) := Nat.mul_lt_mul_of_pos_right h2 (Nat.two_pow_pos _)
      _ = 2 ^ (n.log2 + 1 + (52 - n.log2)) := (Nat.pow_add ..).symm
      _ = 9007199254740992 := by rw [show n.log2 + 1 + (52 - n.log2) = 53 by omega]
theorem rung_le {n : Nat} (h : n < 9007199254740992) : rungOf n ≤ 4890909195324358656 := by
  unfold rungOf
  split
  · omega
  · rename_i h0
    have := log_le h0 h
    have := (scaled h0 h).2
    omega
theorem fw_lt (s : Bool) {n : Nat} (h : n < 9007199254740992) : fw s n < 18446744073709551616 := by
  have := rung_le h
  unfold fw
  split <;> omega
/-- a datum whose value is that whole number with that sign -/
def Val (d : Datum) (s : Bool) (n : Nat) : Prop := ∃ m i, d = .number s m i ∧ m * 2 ^ i.toNat = n * 2 ^ (-i).toNat
theorem read_fw (s : Bool) {n : Nat} (h : n < 9007199254740992) : double.read (fw s n) = if n = 0 then .number s 0 (-1074) else .number s (n * 2 ^ (52 - n.log2)) (n.log2 - 52) := by
  have hr := rung_le h
  have e1 : fw s n / 9223372036854775808 % 2 = (if s then 1 else 0) := by
    unfold fw; split <;> omega
  have e2 : fw s n % 9223372036854775808 = rungOf n := by
    unfold fw; split <;> omega
  unfold Format.read
  rw [d_sw, e1, e2, d_bin, d_inf, d_lp]
  have e3 : ((if s = true then 1 else 0 : Nat) == 1) = s := by cases s <;> rfl
  dsimp only
  rw [e3]
  by_cases h0 : n = 0
  · subst h0
    simp [rungOf]
  · have hl := log_le h0 h
    have hs := scaled h0 h
    rw [if_neg h0]
    unfold rungOf at *
    rw [if_neg h0] at *
    generalize n * 2 ^ (52 - n.log2) = K at *
    rw [if_neg (by omega), if_pos (by omega)]
    congr 1
    · omega
    · omega
theorem val_fw (s : Bool) {n : Nat} (h : n < 9007199254740992) : Val (double.read (fw s n)) s n := by
  rw [read_fw s h]
  by_cases h0 : n = 0
  · subst h0
    exact ⟨0, -1074, by rw [if_pos rfl], by rw [Nat.zero_mul, Nat.zero_mul]⟩
  · rw [if_neg h0]
    have hl := log_le h0 h
    refine ⟨_, _, rfl, ?_⟩
    rw [show ((n.log2 : Int) - 52).toNat = 0 by omega, show (-((n.log2 : Int) - 52)).toNat = 52 - n.log2 by omega]
    simp
theorem cut_exact (way : Toward) (s : Bool) (n d q : Nat) (h : n = q * 2 ^ d) (hd : d ≤ n.log2 + 2) : way.cut s n d = q := by
  unfold Toward.cut
  rw [Nat.min_eq_left hd, Nat.one_shiftLeft]
  have e1 : n / 2 ^ d = q := by rw [h]; exact Nat.mul_div_cancel _ (Nat.two_pow_pos _)
  have e2 : n % 2 ^ d = 0 := by rw [h]; exact Nat.mul_mod_left ..
  have hp := Nat.two_pow_pos d
  simp only [e1, e2]
  cases way <;> simp <;> omega
theorem log_mul (n k : Nat) (h : n ≠ 0) : (n * 2 ^ k).log2 = n.log2 + k := by
  have h1 := Nat.log2_self_le h
  have h2 := Nat.lt_log2_self (n := n)
  have hne : n * 2 ^ k ≠ 0 := Nat.mul_ne_zero h (Nat.pos_iff_ne_zero.1 (Nat.two_pow_pos _))
  have ub : (n * 2 ^ k).log2 < n.log2 + k + 1 := (Nat.log2_lt hne).2 (by
    rw [show n.log2 + k + 1 = n.log2 + 1 + k by omega, Nat.pow_add]
    exact Nat.mul_lt_mul_of_pos_right h2 (Nat.two_pow_pos _))
  have lb : n.log2 + k ≤ (n * 2 ^ k).log2 := (Nat.le_log2 hne).2 (by
    rw [Nat.pow_add]
    exact Nat.mul_le_mul_right _ h1)
  omega
/-- a datum of a whole number is written as its word -/
theorem write_val {d : Datum} {s : Bool} {n : Nat} (h : Val d s n) (hn : n < 9007199254740992) : double.write d = fw s n := by
  obtain ⟨m, i, rfl, hv⟩ := h
  show double.nearest s m i = _
  unfold Format.nearest
  have hw : ∀ r, double.word s r = if s then 9223372036854775808 + r else r := fun r => by unfold Format.word; rw [d_sw]
  rw [hw, hw, d_lp, d_bin, d_inf, d_fb]
  unfold fw
  by_cases h0 : n = 0
  · subst h0
    have : m = 0 := by
      rw [Nat.zero_mul] at hv
      rcases Nat.mul_eq_zero.1 hv with h | h
      · exact h
      · exact absurd h (Nat.pos_iff_ne_zero.1 (Nat.two_pow_pos _))
    rw [if_pos this]
    simp [rungOf]
  · have hm : m ≠ 0 := by
      rintro rfl
      rw [Nat.zero_mul] at hv
      exact Nat.mul_ne_zero h0 (Nat.pos_iff_ne_zero.1 (Nat.two_pow_pos _)) hv.symm
    rw [if_neg hm]
    have hl := log_le h0 hn
    have hs := scaled h0 hn
    have hr := rung_le hn
    have hlog : (m.log2 : Int) + i = n.log2 := by
      have e1 := log_mul m i.toNat hm
      have e2 := log_mul n (-i).toNat h0
      rw [hv] at e1
      omega
    have hlast : max (i + (m.log2 : Int) - (52 : Nat)) (-1074) = (n.log2 : Int) - 52 := by omega
    rw [hlast]
    have hk : Toward.even.cut s (m <<< (i - ((n.log2 : Int) - 52)).toNat) (((n.log2 : Int) - 52) - i).toNat = n * 2 ^ (52 - n.log2) := by
      by_cases hi : (n.log2 : Int) - 52 ≤ i
      · rw [show (((n.log2 : Int) - 52) - i).toNat = 0 by omega, Nat.shiftLeft_eq]
        refine cut_exact _ _ _ 0 _ ?_ (by omega)
        rw [Nat.pow_zero, Nat.mul_one]
        by_cases hp : 0 ≤ i
        · rw [show (-i).toNat = 0 by omega, Nat.pow_zero, Nat.mul_one] at hv
          have e9 : n * 2 ^ (52 - n.log2) = m * 2 ^ i.toNat * 2 ^ (52 - n.log2) := by rw [hv]
          rw [e9, Nat.mul_assoc, ← Nat.pow_add]
          congr 2; omega
        · rw [show i.toNat = 0 by omega, Nat.pow_zero, Nat.mul_one] at hv
          rw [hv, Nat.mul_assoc, ← Nat.pow_add]
          congr 2; omega
      · rw [show (i - ((n.log2 : Int) - 52)).toNat = 0 by omega, Nat.shiftLeft_eq, Nat.pow_zero, Nat.mul_one]
        refine cut_exact _ _ _ _ _ ?_ (by omega)
        rw [show i.toNat = 0 by omega, Nat.pow_zero, Nat.mul_one] at hv
        rw [hv, Nat.mul_assoc, ← Nat.pow_add]
        congr 2; omega
    rw [hk, show (((n.log2 : Int) - 52) - -1074).toNat = n.log2 + 1022 by omega]
    unfold rungOf at *
    rw [if_neg h0] at *
    rw [Nat.min_eq_left (by omega)]
/-- the whole number of a sign and a size -/
def sg (s : Bool) (n : Nat) : Int := if s then -(n : Int) else n
theorem sg_abs (s : Bool) (n : Nat) : (sg s n).natAbs = n := by unfold sg; split <;> omega
/-- the datum of a whole number below 2^53, as it is read -/
def Vl (d : Datum) (s : Bool) (n : Nat) : Prop := ∃ k : Nat, d = .number s (n * 2 ^ k) (-(k : Int))
theorem Vl.val {d : Datum} {s : Bool} {n : Nat} (h : Vl d s n) : Val d s n := by
  obtain ⟨k, rfl⟩ := h
  exact ⟨_, _, rfl, by rw [show (-(k : Int)).toNat = 0 by omega, show (- -(k : Int)).toNat = k by omega]; simp⟩
theorem vl_fw (s : Bool) {n : Nat} (h : n < 9007199254740992) : Vl (double.read (fw s n)) s n := by
  rw [read_fw s h]
  by_cases h0 : n = 0
  · subst h0
    rw [if_pos rfl]
    obtain ⟨k, hk⟩ : ∃ k : Nat, (-1074 : Int) = -(k : Int) := ⟨1074, rfl⟩
    rw [hk]
    exact ⟨k, by rw [Nat.zero_mul]⟩
  · rw [if_neg h0]
    have hl := log_le h0 h
    exact ⟨52 - n.log2, by congr 1; omega⟩
theorem signed_is (s : Bool) (n a : Nat) : signed s n a = sg s n * 2 ^ a := by
  unfold signed sg
  rw [Nat.shiftLeft_eq]
  split <;> push_cast <;> simp [Int.neg_mul]
theorem sg_scale (s : Bool) (n k : Nat) : sg s (n * 2 ^ k) = sg s n * 2 ^ k := by
  unfold sg
  split <;> push_cast <;> simp [Int.neg_mul]
theorem pos_pow (k : Nat) : (0 : Int) < 2 ^ k := by
  have := Nat.two_pow_pos k
  exact_mod_cast this
/-- a whole number as a word; of 0 the sign is told -/
def fi (z : Int) (s : Bool) : Nat := fw (if z = 0 then s else decide (z < 0)) z.natAbs
theorem mul_zero_iff (z : Int) (k : Nat) : (z * 2 ^ k = 0) = (z = 0) := by
  have := pos_pow k
  apply propext
  constructor
  · intro h
    rcases Int.mul_eq_zero.1 h with h | h
    · exact h
    · omega
  · rintro rfl; simp
theorem mul_neg_iff (z : Int) (k : Nat) : (z * 2 ^ k < 0) = (z < 0) := by
  have := pos_pow k
  apply propext
  constructor
  · intro h
    rcases Int.lt_or_le z 0 with h1 | h1
    · exact h1
    · have := Int.mul_nonneg h1 (Int.le_of_lt this); omega
  · intro h; exact Int.mul_neg_of_neg_of_pos h this
theorem vl_sum {d e : Datum} {s t : Bool} {n m : Nat} (hd : Vl d s n) (he : Vl e t m) : ∃ f, d.sum e = some f ∧ Vl f (if sg s n + sg t m = 0 then s && t else decide (sg s n + sg t m < 0)) (sg s n + sg t m).natAbs := by
  obtain ⟨k, rfl⟩ := hd
  obtain ⟨l, rfl⟩ := he
  obtain ⟨K, hK⟩ : ∃ K, max k l = K := ⟨_, rfl⟩
  refine ⟨_, rfl, K, ?_⟩
  have hb : min (-(k : Int)) (-(l : Int)) = -(K : Int) := by omega
  rw [hb]
  have e1 : signed s (n * 2 ^ k) (-(k : Int) - -(K : Int)).toNat = sg s n * 2 ^ K := by
    rw [signed_is, sg_scale, Int.mul_assoc, ← Int.pow_add]
    congr 2; omega
  have e2 : signed t (m * 2 ^ l) (-(l : Int) - -(K : Int)).toNat = sg t m * 2 ^ K := by
    rw [signed_is, sg_scale, Int.mul_assoc, ← Int.pow_add]
    congr 2; omega
  rw [e1, e2, ← Int.add_mul]
  generalize sg s n + sg t m = z
  simp only [mul_zero_iff, mul_neg_iff, Int.natAbs_mul]
  congr 1
theorem fw_add {s t : Bool} {n m : Nat} (hn : n < 9007199254740992) (hm : m < 9007199254740992) (hr : (sg s n + sg t m).natAbs < 9007199254740992) : double.add (fw s n) (fw t m) = some (fi (sg s n + sg t m) (s && t)) := by
  obtain ⟨f, hf, hv⟩ := vl_sum (vl_fw s hn) (vl_fw t hm)
  unfold Format.add
  rw [hf]
  show some (double.write f) = _
  rw [write_val hv.val hr]; rfl
theorem vl_opp {d : Datum} {s : Bool} {n : Nat} (h : Vl d s n) : Vl d.opposite (!s) n := by
  obtain ⟨k, rfl⟩ := h
  exact ⟨k, rfl⟩
theorem sg_not (s : Bool) (n : Nat) : sg (!s) n = - sg s n := by cases s <;> simp [sg]
theorem fw_sub {s t : Bool} {n m : Nat} (hn : n < 9007199254740992) (hm : m < 9007199254740992) (hr : (sg s n - sg t m).natAbs < 9007199254740992) : double.sub (fw s n) (fw t m) = some (fi (sg s n - sg t m) (s && !t)) := by
  obtain ⟨f, hf, hv⟩ := vl_sum (vl_fw s hn) (vl_opp (vl_fw t hm))
  unfold Format.sub
  rw [hf]
  show some (double.write f) = _
  rw [sg_not, ← Int.sub_eq_add_neg] at hv
  rw [write_val hv.val hr]; rfl
theorem vl_prod {d e : Datum} {s t : Bool} {n m : Nat} (hd : Vl d s n) (he : Vl e t m) : ∃ f, d.product e = some f ∧ Vl f (s ^^ t) (n * m) := by
  obtain ⟨k, rfl⟩ := hd
  obtain ⟨l, rfl⟩ := he
  refine ⟨_, rfl, k + l, ?_⟩
  congr 1
  · rw [Nat.pow_add]; simp only [Nat.mul_assoc, Nat.mul_left_comm, Nat.mul_comm]
  · omega
theorem fw_mul {s t : Bool} {n m : Nat} (hn : n < 9007199254740992) (hm : m < 9007199254740992) (hr : n * m < 9007199254740992) : double.mul (fw s n) (fw t m) = some (fw (s ^^ t) (n * m)) := by
  obtain ⟨f, hf, hv⟩ := vl_prod (vl_fw s hn) (vl_fw t hm)
  unfold Format.mul
  rw [hf]
  show some (double.write f) = _
  rw [write_val hv.val hr]
theorem compare_scale (y z : Int) (k : Nat) : compare (y * 2 ^ k) (z * 2 ^ k) = compare y z := by
  have := pos_pow k
  have e1 : (y * 2 ^ k < z * 2 ^ k) = (y < z) := propext ⟨fun h => Int.lt_of_mul_lt_mul_right h (Int.le_of_lt this), fun h => Int.mul_lt_mul_of_pos_right h this⟩
  have e2 : (y * 2 ^ k = z * 2 ^ k) = (y = z) := propext ⟨fun h => Int.eq_of_mul_eq_mul_right (by omega) h, fun h => by rw [h]⟩
  simp only [compare, compareOfLessAndEq, e1, e2]
theorem vl_order {d e : Datum} {s t : Bool} {n m : Nat} (hd : Vl d s n) (he : Vl e t m) : d.order e = some (compare (sg s n) (sg t m)) := by
  obtain ⟨k, rfl⟩ := hd
  obtain ⟨l, rfl⟩ := he
  obtain ⟨K, hK⟩ : ∃ K, max k l = K := ⟨_, rfl⟩
  have hb : min (-(k : Int)) (-(l : Int)) = -(K : Int) := by omega
  have e1 : signed s (n * 2 ^ k) (-(k : Int) - -(K : Int)).toNat = sg s n * 2 ^ K := by
    rw [signed_is, sg_scale, Int.mul_assoc, ← Int.pow_add]
    congr 2; omega
  have e2 : signed t (m * 2 ^ l) (-(l : Int) - -(K : Int)).toNat = sg t m * 2 ^ K := by
    rw [signed_is, sg_scale, Int.mul_assoc, ← Int.pow_add]
    congr 2; omega
  show some (compare (signed s (n * 2 ^ k) (-(k : Int) - min (-(k : Int)) (-(l : Int))).toNat) (signed t (m * 2 ^ l) (-(l : Int) - min (-(k : Int)) (-(l : Int))).toNat)) = _
  rw [hb, e1, e2, compare_scale]
theorem fw_order {s t : Bool} {n m : Nat} (hn : n < 9007199254740992) (hm : m < 9007199254740992) : double.order (fw s n) (fw t m) = some (compare (sg s n) (sg t m)) := vl_order (vl_fw s hn) (vl_fw t hm)
theorem cut_zero (way : Toward) (s : Bool) (d : Nat) : way.cut s 0 d = 0 := by
  unfold Toward.cut
  cases way <;> simp
theorem cut_fw (s : Bool) (n k : Nat) : Toward.zero.cut s (n * 2 ^ k) k = n := by
  by_cases h0 : n = 0
  · subst h0; rw [Nat.zero_mul, cut_zero]
  · exact cut_exact _ _ _ _ _ rfl (by rw [log_mul _ _ h0]; omega)
theorem vl_integral {d : Datum} {s : Bool} {n : Nat} (h : Vl d s n) : d.integral .zero = .number s n 0 := by
  obtain ⟨k, rfl⟩ := h
  show Datum.number s (Toward.zero.cut s ((n * 2 ^ k) <<< (-(k : Int)).toNat) (- -(k : Int)).toNat) 0 = _
  rw [show (-(k : Int)).toNat = 0 by omega, show (- -(k : Int)).toNat = k by omega, Nat.shiftLeft_zero, cut_fw]
theorem fw_toInt {s : Bool} {n : Nat} (hn : n < 9007199254740992) : (double.read (fw s n)).toInt .zero = some (sg s n) := by
  unfold Datum.toInt
  rw [vl_integral (vl_fw s hn)]
  show some (signed s n 0) = _
  rw [signed_is]; simp
theorem write_whole (s : Bool) {n : Nat} (hn : n < 9007199254740992) : double.write (.number s n 0) = fw s n := write_val ⟨n, 0, rfl, by simp⟩ hn
theorem fw_trunc {s : Bool} {n : Nat} (hn : n < 9007199254740992) : double.write ((double.read (fw s n)).integral .zero) = fw s n := by
  rw [vl_integral (vl_fw s hn), write_whole s hn]
theorem of_int (z : Int) (hz : z.natAbs < 9007199254740992) : FloatKind.f64.nearest z = fi z false := by
  show double.write (.number (decide (z < 0)) z.natAbs 0) = _
  rw [write_whole _ hz]
  unfold fi
  congr 1
  split
  · subst_vars; rfl
  · rfl
theorem fi_fw (s : Bool) (n : Nat) (h : n ≠ 0) (t : Bool) : fi (sg s n) t = fw s n := by
  unfold fi
  rw [sg_abs]
  congr 1
  have : sg s n ≠ 0 := by unfold sg; split <;> omega
  rw [if_neg this]
  cases s <;> simp [sg] <;> omega
theorem fi_is (z : Int) (s : Bool) : ∃ t, fi z s = fw t z.natAbs ∧ sg t z.natAbs = z := by
  refine ⟨_, rfl, ?_⟩
  unfold sg
  by_cases h : z = 0
  · subst h; simp
  · rw [if_neg h]
    by_cases h1 : z < 0
    · rw [decide_eq_true h1, if_pos rfl]; omega
    · rw [decide_eq_false h1, if_neg (by decide)]; omega
/-- a finite word is the word of what it stands for -/
theorem roundtrip {x : Nat} {s : Bool} {m : Nat} {i : Int} (hx : x < 18446744073709551616) (h : double.read x = .number s m i) : double.write (.number s m i) = x := by
  show double.nearest s m i = x
  unfold Format.read at h
  rw [d_sw, d_bin, d_inf, d_lp] at h
  dsimp only at h
  have hw : ∀ r, double.word s r = if s then 9223372036854775808 + r else r := fun r => by unfold Format.word; rw [d_sw]
  obtain ⟨r, hr⟩ : ∃ r, x % 9223372036854775808 = r := ⟨_, rfl⟩
  rw [hr] at h
  have hs : ∀ b : Bool, (x / 9223372036854775808 % 2 == 1) = b → x = if b then 9223372036854775808 + r else r := by
    intro b hb
    cases b
    · have : ¬ (x / 9223372036854775808 % 2 = 1) := by simpa using hb
      simp; omega
    · have : (x / 9223372036854775808 % 2 = 1) := by simpa using hb
      simp; omega
  unfold Format.nearest
  rw [hw, hw, d_lp, d_bin, d_inf, d_fb]
  by_cases h1 : r < 4503599627370496
  · rw [if_pos h1] at h
    injection h with e1 e2 e3
    subst e2 e3
    have hxs := hs _ e1
    by_cases h0 : r = 0
    · subst h0
      rw [if_pos rfl]; exact hxs.symm
    · rw [if_neg h0]
      have hl : r.log2 ≤ 51 := by
        have := (Nat.log2_lt h0 (k := 52)).2 (by simpa using h1)
        omega
      have hlast : max (-1074 + (r.log2 : Int) - (52 : Nat)) (-1074) = -1074 := by omega
      rw [hlast, show ((-1074 : Int) - -1074).toNat = 0 by omega, Nat.shiftLeft_zero, cut_exact _ _ r 0 r (by simp) (by omega), Nat.zero_mul, Nat.zero_add, Nat.min_eq_left (by omega)]
      exact hxs.symm
  · rw [if_neg h1] at h
    by_cases h2 : r < 9218868437227405312
    · rw [if_pos h2] at h
      injection h with e1 e2 e3
      have hxs := hs _ e1
      have hm0 : m ≠ 0 := by omega
      rw [if_neg hm0]
      have hl : m.log2 = 52 := by
        have a1 := (Nat.log2_lt hm0 (k := 53)).2 (by omega)
        have a2 := (Nat.le_log2 hm0 (k := 52)).2 (by omega)
        omega
      rw [hl]
      have hlast : max (i + ((52 : Nat) : Int) - (52 : Nat)) (-1074) = i := by omega
      rw [hlast, show (i - i).toNat = 0 by omega, Nat.shiftLeft_zero, cut_exact _ _ m 0 m (by simp) (by omega), show (i - -1074).toNat = r / 4503599627370496 - 1 by omega]
      have e9 : (r / 4503599627370496 - 1) * 4503599627370496 + m = r := by omega
      rw [e9, Nat.min_eq_left (by omega)]
      exact hxs.symm
    · rw [if_neg h2] at h
      split at h <;> cases h
/-- a float that is a whole number of at most 2^24 -/
def Rt (x : Nat) : Prop := ∃ s n, n ≤ 16777216 ∧ x = fw s n
theorem signed_val {s : Bool} {m n : Nat} {i base : Int} (hb : base ≤ i) (hb0 : base ≤ 0) : signed s m (i - base).toNat = sg s m * 2 ^ (i - base).toNat := signed_is s m _
/-- what equals a whole number is its word, or that of the other 0 -/
theorem order_eq {x : Nat} {t : Bool} {n : Nat} (hx : x < 18446744073709551616) (hn : n < 9007199254740992) (h : double.order x (fw t n) = some .eq) : ∃ s, x = fw s n ∧ sg s n = sg t n := by
  unfold Format.order at h
  obtain ⟨k, hk⟩ := vl_fw t hn
  rw [hk] at h
  cases hr : double.read x with
  | nan a b => rw [hr] at h; cases h
  | infinity a => rw [hr] at h; cases a <;> cases h
  | number s m i =>
    rw [hr] at h
    have hrt := roundtrip hx hr
    have h2 : compare (signed s m (i - min i (-(k : Int))).toNat) (signed t (n * 2 ^ k) (-(k : Int) - min i (-(k : Int))).toNat) = .eq := by
      injection h
    rw [signed_is, signed_is, sg_scale] at h2
    obtain ⟨a, ha⟩ : ∃ a, (i - min i (-(k : Int))).toNat = a := ⟨_, rfl⟩
    obtain ⟨b, hb⟩ : ∃ b, (-(k : Int) - min i (-(k : Int))).toNat = b := ⟨_, rfl⟩
    rw [ha, hb] at h2
    have h3 : sg s m * 2 ^ a = sg t n * 2 ^ k * 2 ^ b := by
      rcases Int.lt_trichotomy (sg s m * 2 ^ a) (sg t n * 2 ^ k * 2 ^ b) with h4 | h4 | h4
      · simp [compare, compareOfLessAndEq, h4] at h2
      · exact h4
      · have h5 : ¬ (sg s m * 2 ^ a < sg t n * 2 ^ k * 2 ^ b) := by omega
        have h6 : ¬ (sg s m * 2 ^ a = sg t n * 2 ^ k * 2 ^ b) := by omega
        simp [compare, compareOfLessAndEq, h5, h6] at h2
    rw [Int.mul_assoc, ← Int.pow_add] at h3
    -- sizes
    have h4 : m * 2 ^ a = n * 2 ^ (k + b) := by
      have := congrArg Int.natAbs h3
      rw [Int.natAbs_mul, Int.natAbs_mul, sg_abs, sg_abs, Int.natAbs_pow, Int.natAbs_pow] at this
      exact this
    have hval : m * 2 ^ i.toNat = n * 2 ^ (-i).toNat := by
      have key : ∀ c, m * 2 ^ (i.toNat + c) = n * 2 ^ ((-i).toNat + c) → m * 2 ^ i.toNat = n * 2 ^ (-i).toNat := by
        intro c hc
        rw [Nat.pow_add, Nat.pow_add, ← Nat.mul_assoc, ← Nat.mul_assoc] at hc
        exact Nat.eq_of_mul_eq_mul_right (Nat.two_pow_pos c) hc
      by_cases hi : i ≤ -(k : Int)
      · rw [show a = i.toNat by omega, show k + b = (-i).toNat by omega] at h4
        exact h4
      · by_cases hi0 : 0 ≤ i
        · refine key k ?_
          rw [show i.toNat + k = a by omega, show (-i).toNat + k = k + b by omega]
          exact h4
        · refine key a ?_
          rw [show i.toNat + a = a by omega, show (-i).toNat + a = k + b by omega]
          exact h4
    have hz : n = 0 → m = 0 := by
      rintro rfl
      rw [Nat.zero_mul] at hval
      rcases Nat.mul_eq_zero.1 hval with h | h
      · exact h
      · exact absurd h (Nat.pos_iff_ne_zero.1 (Nat.two_pow_pos _))
    refine ⟨s, ?_, ?_⟩
    · rw [← hrt]
      exact write_val ⟨m, i, rfl, hval⟩ hn
    · by_cases hn0 : n = 0
      · subst hn0; simp [sg]
      · have p1 := pos_pow a
        have p2 := pos_pow (k + b)
        have hm0 : 0 < m := by
          rcases Nat.eq_zero_or_pos m with h | h
          · subst h; rw [Nat.zero_mul] at hval
            exact absurd hval.symm (Nat.mul_ne_zero hn0 (Nat.pos_iff_ne_zero.1 (Nat.two_pow_pos _)))
          · exact h
        have q1 : 0 < (m : Int) * 2 ^ a := Int.mul_pos (by omega) p1
        have q2 : 0 < (n : Int) * 2 ^ (k + b) := Int.mul_pos (by omega) p2
        unfold sg at h3 ⊢
        cases s <;> cases t <;> simp only [if_true, if_false, Bool.false_eq_true] at h3 ⊢
        · rw [Int.neg_mul] at h3; omega
        · rw [Int.neg_mul] at h3; omega
/-- a float that lies within 2^24 cuts to a whole number that does -/
theorem within_cut {m : Nat} {i : Int} (t : Bool) (h' : m * 2 ^ (i - min i (-28)).toNat ≤ 4503599627370496 * 2 ^ (-28 - min i (-28)).toNat) : Toward.zero.cut t (m <<< i.toNat) (-i).toNat ≤ 16777216 := by
  rw [show 4503599627370496 = 16777216 * 2 ^ 28 from rfl] at h'
  by_cases h0 : 0 ≤ i
  · rw [show (-i).toNat = 0 by omega, cut_exact _ _ _ 0 (m <<< i.toNat) (by simp) (by omega), Nat.shiftLeft_eq]
    rw [show (i - min i (-28)).toNat = i.toNat + 28 by omega, show (-28 - min i (-28)).toNat = 0 by omega, Nat.pow_zero, Nat.mul_one, Nat.pow_add, ← Nat.mul_assoc] at h'
    exact Nat.le_of_mul_le_mul_right h' (by decide)
  · rw [show i.toNat = 0 by omega, Nat.shiftLeft_zero]
    have hm : m ≤ 16777216 * 2 ^ (-i).toNat := by
      by_cases h1 : -28 ≤ i
      · rw [show (i - min i (-28)).toNat = (i + 28).toNat by omega, show (-28 - min i (-28)).toNat = 0 by omega, Nat.pow_zero, Nat.mul_one] at h'
        have : 16777216 * 2 ^ 28 = 16777216 * 2 ^ (-i).toNat * 2 ^ (i + 28).toNat := by
          rw [Nat.mul_assoc, ← Nat.pow_add]
          congr 2; omega
        rw [this] at h'
        exact Nat.le_of_mul_le_mul_right h' (Nat.two_pow_pos _)
      · rw [show (i - min i (-28)).toNat = 0 by omega, show (-28 - min i (-28)).toNat = (-i).toNat - 28 by omega, Nat.pow_zero, Nat.mul_one, Nat.mul_assoc, ← Nat.pow_add, show 28 + ((-i).toNat - 28) = (-i).toNat by omega] at h'
        exact h'
    show m / (1 <<< min (-i).toNat (m.log2 + 2)) + 0 ≤ 16777216
    rw [Nat.one_shiftLeft, Nat.add_zero]
    by_cases hd : (-i).toNat ≤ m.log2 + 2
    · rw [Nat.min_eq_left hd]
      exact Nat.div_le_of_le_mul (by rw [Nat.mul_comm]; exact hm)
    · rw [Nat.min_eq_right (by omega), Nat.div_eq_of_lt]
      · omega
      · have := Nat.lt_log2_self (n := m)
        calc m < 2 ^ (m.log2 + 1) := this
          _ ≤ 2 ^ (m.log2 + 2) := Nat.pow_le_pow_right (by decide) (by omega)
theorem mxW : fw false 16777216 = 4715268809856909312 := by decide +kernel
theorem nmxW : fw true 16777216 = 13938640846711685120 := by decide +kernel
theorem read_mx (s : Bool) : double.read (fw s 16777216) = .number s 4503599627370496 (-28) := by
  rw [read_fw s (by decide), if_neg (by decide), show (16777216 : Nat).log2 = 24 by decide +kernel]
  rfl
theorem cmp_eq {a b : Int} : compare a b = .eq ↔ a = b := by
  unfold compare instOrdInt compareOfLessAndEq
  dsimp only
  by_cases h1 : a < b
  · rw [if_pos h1]; constructor
    · intro h; cases h
    · intro h; omega
  · rw [if_neg h1]
    by_cases h2 : a = b
    · simp [h2]
    · rw [if_neg h2]; constructor
      · intro h; cases h
      · intro h; exact absurd h h2
theorem cmp_lt {a b : Int} : compare a b = .lt ↔ a < b := by
  unfold compare instOrdInt compareOfLessAndEq
  dsimp only
  by_cases h1 : a < b
  · simp [h1]
  · rw [if_neg h1]
    by_cases h2 : a = b
    · rw [if_pos h2]; constructor
      · intro h; cases h
      · intro h; omega
    · rw [if_neg h2]; constructor
      · intro h; cases h
      · intro h; exact absurd h h1
theorem cmp_gt {a b : Int} : compare a b = .gt ↔ b < a := by
  unfold compare instOrdInt compareOfLessAndEq
  dsimp only
  by_cases h1 : a < b
  · rw [if_pos h1]; constructor
    · intro h; cases h
    · intro h; omega
  · rw [if_neg h1]
    by_cases h2 : a = b
    · rw [if_pos h2]; constructor
      · intro h; cases h
      · intro h; omega
    · rw [if_neg h2]; simp; omega
theorem order_swap {x y : Nat} (h : double.order x y = some .eq) : double.order y x = some .eq := by
  unfold Format.order at *
  cases hx : double.read x <;> cases hy : double.read y <;> rw [hx, hy] at h
  all_goals first
    | (cases h; done)
    | skip
  case number.number s m i t n j =>
    have h2 : compare (signed s m (i - min i j).toNat) (signed t n (j - min i j).toNat) = .eq := by injection h
    show some (compare (signed t n (j - min j i).toNat) (signed s m (i - min j i).toNat)) = _
    rw [Int.min_comm j i, cmp_eq.2 (cmp_eq.1 h2).symm]
  case infinity.infinity a b =>
    cases a <;> cases b <;> first | rfl | cases h
  case infinity.number a s m i => cases a <;> simp [Datum.order] at h
  case number.infinity s m i a => cases a <;> simp [Datum.order] at h
theorem nan_order {x y : Nat} (h : (double.read x).isNaN = true) : double.order x y = none := by
  unfold Format.order
  cases hx : double.read x with
  | nan a b => cases double.read y <;> rfl
  | number => rw [hx] at h; cases h
  | infinity => rw [hx] at h; cases h
theorem pow_le_of {m a b : Nat} (h : (m : Int) * 2 ^ a ≤ 4503599627370496 * 2 ^ b) : m * 2 ^ a ≤ 4503599627370496 * 2 ^ b := by
  have e1 : ((m * 2 ^ a : Nat) : Int) = (m : Int) * 2 ^ a := by rw [Int.natCast_mul, Int.natCast_pow]; rfl
  have e2 : ((4503599627370496 * 2 ^ b : Nat) : Int) = (4503599627370496 : Int) * 2 ^ b := by rw [Int.natCast_mul, Int.natCast_pow]; rfl
  rw [← e1, ← e2] at h
  exact Int.ofNat_le.1 h
/-- within 2^24, seen by the tests -/
theorem le_mx {x : Nat} {m : Nat} {i : Int} (hr : double.read x = .number false m i) (h : double.order x (fw false 16777216) ≠ some .gt) : m * 2 ^ (i - min i (-28)).toNat ≤ 4503599627370496 * 2 ^ (-28 - min i (-28)).toNat := by
  unfold Format.order at h
  rw [hr, read_mx] at h
  have h2 : compare (signed false m (i - min i (-28)).toNat) (signed false 4503599627370496 (-28 - min i (-28)).toNat) ≠ .gt := fun e => h (congrArg some e)
  rw [signed_is, signed_is, Ne, cmp_gt] at h2
  simp only [sg, if_false, Bool.false_eq_true] at h2
  exact pow_le_of (by omega)
theorem ge_nmx {x : Nat} {m : Nat} {i : Int} (hr : double.read x = .number true m i) (h : double.order x (fw true 16777216) ≠ some .lt) : m * 2 ^ (i - min i (-28)).toNat ≤ 4503599627370496 * 2 ^ (-28 - min i (-28)).toNat := by
  unfold Format.order at h
  rw [hr, read_mx] at h
  have h2 : compare (signed true m (i - min i (-28)).toNat) (signed true 4503599627370496 (-28 - min i (-28)).toNat) ≠ .lt := fun e => h (congrArg some e)
  rw [signed_is, signed_is, Ne, cmp_lt] at h2
  simp only [sg, if_true, Int.neg_mul] at h2
  exact pow_le_of (by omega)
theorem toInt_num {s : Bool} {m : Nat} {i : Int} : (Datum.number s m i).toInt .zero = some (sg s (Toward.zero.cut s (m <<< i.toNat) (-i).toNat)) := by
  show some (signed s _ 0) = _
  rw [signed_is]; simp
theorem rt_order {x : Nat} (hx : Rt x) : double.order x x = some .eq ∧ double.order x (fw true 16777216) ≠ some .lt ∧ double.order x (fw false 16777216) ≠ some .gt := by
  obtain ⟨s, n, hn, rfl⟩ := hx
  rw [fw_order (by omega) (by omega), fw_order (by omega) (by omega), fw_order (by omega) (by omega)]
  refine ⟨by rw [cmp_eq.2 rfl], ?_, ?_⟩
  · intro h; injection h with h; have := cmp_lt.1 h; cases s <;> simp only [sg, if_true, if_false, Bool.false_eq_true] at this <;> omega
  · intro h; injection h with h; have := cmp_gt.1 h; cases s <;> simp only [sg, if_true, if_false, Bool.false_eq_true] at this <;> omega
/-- the document's test of a part -/
theorem part_dec {x : Nat} (hx : x < 18446744073709551616) (h1 : double.order x x = some .eq) (h2 : double.order x (fw true 16777216) ≠ some .lt) (h3 : double.order x (fw false 16777216) ≠ some .gt) :
    ∃ n : Int, (double.read x).toInt .zero = some n ∧ n.natAbs ≤ 16777216 ∧ ((double.order (fi n false) x = some .eq) ↔ Rt x) ∧ ∀ s k, k ≤ 16777216 → x = fw s k → n = sg s k := by
  have hfin : ∃ s m i, double.read x = .number s m i := by
    cases hr : double.read x with
    | nan a b =>
      rw [nan_order (by rw [hr]; rfl)] at h1; cases h1
    | infinity a =>
      exfalso
      unfold Format.order at h2 h3
      rw [hr, read_mx] at h2 h3
      cases a
      · exact h3 rfl
      · exact h2 rfl
    | number s m i => exact ⟨s, m, i, rfl⟩
  obtain ⟨s, m, i, hr⟩ := hfin
  have hle : m * 2 ^ (i - min i (-28)).toNat ≤ 4503599627370496 * 2 ^ (-28 - min i (-28)).toNat := by
    cases s
    · exact le_mx hr h3
    · exact ge_nmx hr h2
  have hc := within_cut s hle
  obtain ⟨c, hcc⟩ : ∃ c, Toward.zero.cut s (m <<< i.toNat) (-i).toNat = c := ⟨_, rfl⟩
  rw [hcc] at hc
  refine ⟨sg s c, by rw [hr, toInt_num, hcc], by rw [sg_abs]; exact hc, ⟨fun h => ?_, fun h => ?_⟩, fun t k hk e => ?_⟩
  · obtain ⟨t, ht, hts⟩ := fi_is (sg s c) false
    rw [ht, sg_abs] at h
    obtain ⟨u, hu, _⟩ := order_eq hx (by omega) (order_swap h)
    exact ⟨u, c, hc, hu⟩
  · obtain ⟨t, n, hn, rfl⟩ := h
    have := fw_toInt (s := t) (n := n) (by omega)
    rw [hr, toInt_num, hcc] at this
    injection this with this
    obtain ⟨u, hu, hus⟩ := fi_is (sg s c) false
    rw [hu, sg_abs, fw_order (by omega) (by omega), cmp_eq.2]
    rw [sg_abs] at hus
    rw [hus, this]
  · subst e
    have := fw_toInt (s := t) (n := k) (by omega)
    rw [hr, toInt_num, hcc] at this
    injection this
theorem read_abs {x : Nat} (hx : x < 18446744073709551616) {s : Bool} {m : Nat} {i : Int} (h : double.read x = .number s m i) : double.read (x % 9223372036854775808) = .number false m i := by
  unfold Format.read at *
  rw [d_sw, d_bin, d_inf, d_lp] at *
  dsimp only at *
  rw [show x % 9223372036854775808 / 9223372036854775808 = 0 by omega, show x % 9223372036854775808 % 9223372036854775808 = x % 9223372036854775808 by omega]
  split at h
  · injection h with e1 e2 e3
    rw [if_pos (by assumption), ← e2, ← e3]; rfl
  · rw [if_neg (by assumption)]
    split at h
    · injection h with e1 e2 e3
      rw [if_pos (by assumption), ← e2, ← e3]; rfl
    · split at h <;> cases h
theorem read_absInf {x : Nat} {s : Bool} (h : double.read x = .infinity s) : double.read (x % 9223372036854775808) = .infinity false := by
  unfold Format.read at *
  rw [d_sw, d_bin, d_inf, d_lp] at *
  dsimp only at *
  rw [show x % 9223372036854775808 / 9223372036854775808 = 0 by omega, show x % 9223372036854775808 % 9223372036854775808 = x % 9223372036854775808 by omega]
  split at h
  · cases h
  · rw [if_neg (by assumption)]
    split at h
    · cases h
    · rw [if_neg (by assumption)]
      split at h
      · rw [if_pos (by assumption)]; rfl
      · cases h
theorem fw_abs (s : Bool) {n : Nat} (hn : n < 9007199254740992) : fw s n % 9223372036854775808 = fw false n := by
  have := rung_le hn
  unfold fw
  cases s <;> simp <;> omega
/-- the program's test of a part (of a float that is no NaN) -/
theorem whole_dec {x : Nat} (hx : x < 18446744073709551616) (hnn : (double.read x).isNaN = false) : ((double.order x (double.write ((double.read x).integral .zero)) == some .eq) && (double.order (x % 9223372036854775808) (fw false 16777216) == some .lt || double.order (x % 9223372036854775808) (fw false 16777216) == some .eq)) = true ↔ Rt x := by
  rw [Bool.and_eq_true, Bool.or_eq_true, beq_iff_eq, beq_iff_eq, beq_iff_eq]
  constructor
  · rintro ⟨hA, hC⟩
    cases hr : double.read x with
    | nan a b => rw [hr] at hnn; cases hnn
    | infinity a =>
      unfold Format.order at hC
      rw [read_absInf hr, read_mx] at hC
      rcases hC with h | h <;> cases h
    | number s m i =>
      have hle := le_mx (read_abs hx hr) (by rcases hC with h | h <;> rw [h] <;> intro e <;> cases e)
      have hc := within_cut s hle
      rw [hr] at hA
      have e : (Datum.number s m i).integral .zero = .number s (Toward.zero.cut s (m <<< i.toNat) (-i).toNat) 0 := rfl
      rw [e, write_whole _ (by omega)] at hA
      obtain ⟨u, hu, _⟩ := order_eq hx (by omega) hA
      exact ⟨u, _, hc, hu⟩
  · rintro ⟨s, n, hn, rfl⟩
    rw [fw_trunc (by omega), fw_order (by omega) (by omega), fw_abs _ (by omega), fw_order (by omega) (by omega)]
    refine ⟨by rw [cmp_eq.2 rfl], ?_⟩
    simp only [sg, if_false, Bool.false_eq_true]
    rcases (by omega : n < 16777216 ∨ n = 16777216) with h | rfl
    · left; rw [cmp_lt.2 (by omega)]
    · right; rfl
theorem rt_not_nan {x : Nat} (h : Rt x) : (double.read x).isNaN = false := by
  obtain ⟨s, n, hn, rfl⟩ := h
  obtain ⟨k, hk⟩ := vl_fw s (n := n) (by omega)
  rw [hk]; rfl
/-- the other sign -/
theorem fw_neg (s : Bool) {n : Nat} (hn : n < 9007199254740992) : Op.negFloat .f64 (fw s n) = fw (!s) n := by
  have hr := rung_le hn
  show fw s n ^^^ 2 ^ (11 + 52) = _
  rw [show (2 : Nat) ^ (11 + 52) = 9223372036854775808 from rfl]
  have key : ∀ r, r < 9223372036854775808 → (r ^^^ 9223372036854775808 = 9223372036854775808 + r) := by
    intro r h
    have e : (9223372036854775808 : Nat) + r = 9223372036854775808 ||| r := by
      have := Nat.two_pow_add_eq_or_of_lt (i := 63) (b := r) (by simpa using h) 1
      simpa using this
    rw [e]
    apply Nat.eq_of_testBit_eq
    intro i
    rw [Nat.testBit_xor, Nat.testBit_or]
    rw [show (9223372036854775808 : Nat) = 2 ^ 63 from rfl, Nat.testBit_two_pow]
    by_cases hi : 63 = i
    · subst hi
      have : r.testBit 63 = false := Nat.testBit_lt_two_pow (by simpa using h)
      simp [this]
    · simp [hi]
  unfold fw
  cases s
  · simp only [Bool.not_false, if_true, if_false, Bool.false_eq_true]
    exact key _ (by omega)
  · simp only [Bool.not_true, if_true, if_false, Bool.false_eq_true]
    rw [← key _ (by omega), Nat.xor_assoc, Nat.xor_self, Nat.xor_zero]
end Go.Proofs.YtmmfjonoenmplaaDoor
