import Derived.Test.YtbhgjjicmbbjaaaDoorTrI
import Derived.Test.YtbhgjjicmbbjaaaDoorTrJ
namespace Go.Proofs.YtbhgjjicmbbjaaaDoor
open Go.RowKit
set_option linter.unusedVariables false
set_option linter.unusedSimpArgs false
/-! chapter 17: Atoi, ParseUint of two hexadecimal digits -/
theorem dec_short : ∀ (k u : Nat), u < 10 ^ (k + 1) → (Lib.decDigits u).length ≤ k + 1
  | 0, u, h => by rw [Lib.decDigits, dif_pos (by simpa using h)]; simp
  | k + 1, u, h => by
    rw [Lib.decDigits]
    split
    · simp
    · have := dec_short k (u / 10) (by rw [Nat.pow_succ] at h; omega)
      simp; omega
theorem decFrom_digits : ∀ (l : List UInt8) (a : Nat), (∀ b ∈ l, 48 ≤ b.toNat ∧ b.toNat ≤ 57) → Lib.decFrom a l = some (l.foldl (fun a b => a * 10 + (b.toNat - 48)) a)
  | [], _, _ => rfl
  | b :: l, a, h => by
    rw [Lib.decFrom, Lib.digitVal, if_pos (h b (by simp))]
    simp only [List.foldl_cons]
    exact decFrom_digits l _ (fun c hc => h c (by simp [hc]))
theorem atoi_dec (u : Nat) : Lib.atoi (Lib.decDigits u) = some (u : Int) := by
  have hb := dec_bytes u
  have hd : Lib.decNat (Lib.decDigits u) = some u := by
    unfold Lib.decNat
    rw [if_neg (by simpa using dec_ne u), decFrom_digits _ _ hb]
    exact congrArg some (decV_dec u)
  cases hl : Lib.decDigits u with
  | nil => exact absurd hl (dec_ne u)
  | cons b r =>
    have h1 := hb b (by rw [hl]; simp)
    unfold Lib.atoi
    rw [hl] at hd
    have n45 : ¬ (b == 45) = true := by
      intro e
      have : b = 45 := by simpa using e
      rw [this] at h1
      revert h1; decide
    have n43 : ¬ (b == 43) = true := by
      intro e
      have : b = 43 := by simpa using e
      rw [this] at h1
      revert h1; decide
    simp only
    rw [if_neg n45, if_neg n43, hd]
    rfl
theorem atoiAll_itoa (n : Int) (h0 : 0 ≤ n) (h1 : n ≤ 1000000) : Lib.atoiAll (Lib.itoa n) = .ok n := by
  rw [itoa_pos h0, Lib.atoiAll_short _ (Nat.le_trans (dec_short 6 n.toNat (by omega)) (by decide)), atoi_dec, Int.toNat_of_nonneg h0]
  rfl
/-- what Atoi answers -/
def AtoiP (s : ByteArray) (v : Int) (ev : Value) : Prop := inI v ∧ ((ev = .nilIface ∧ Lib.atoiAll s.data.toList = .ok v) ∨ ((∃ t p, ev = .iface t p) ∧ ∀ n, Lib.atoiAll s.data.toList ≠ .ok n))
theorem atoi_any (s : ByteArray) (hs : s.size ≤ 4000000) (w : World) (hM : Mk w) : Calls Tryd.prog 42 #[.string s] w fun e w' => (∃ v ev, e = .returned (.tuple #[.int .i64 v, ev]) ∧ AtoiP s v ev) ∧ Below w.heap.size w w' := by
  cases h : Lib.atoiAll s.data.toList with
  | ok v =>
    refine (Tryd.strconv_Atoi_ok s (by omega) v h w).mono ?_
    rintro e w' ⟨rfl, hw⟩
    refine ⟨⟨v, _, rfl, Lib.atoiAll_bounds h, .inl ⟨rfl, h⟩⟩, ?_⟩
    rcases hw with rfl | ⟨t, rfl⟩
    · exact Below.refl _ _
    · exact Lib.bytesWorld_below _ _ _
  | «syntax» =>
    obtain ⟨te, pe, hv⟩ := hM.syn
    refine (Tryd.strconv_Atoi_syntax s (by omega) h _ w hv (.inr ⟨te, pe, rfl⟩)).mono ?_
    rintro e w' ⟨N, rfl, _, _, hb⟩
    exact ⟨⟨0, _, rfl, ⟨by decide, by decide⟩, .inr ⟨⟨_, _, rfl⟩, fun n hn => by rw [h] at hn; cases hn⟩⟩, hb⟩
  | range =>
    obtain ⟨te, pe, hv⟩ := hM.ran
    refine (Tryd.strconv_Atoi_range s (by omega) h _ w hv (.inr ⟨te, pe, rfl⟩)).mono ?_
    rintro e w' ⟨N, rfl, _, _, hb⟩
    exact ⟨⟨_, _, rfl, Lib.atoiSat_bounds _, .inr ⟨⟨_, _, rfl⟩, fun n hn => by rw [h] at hn; cases hn⟩⟩, hb⟩
end Go.Proofs.YtbhgjjicmbbjaaaDoor
