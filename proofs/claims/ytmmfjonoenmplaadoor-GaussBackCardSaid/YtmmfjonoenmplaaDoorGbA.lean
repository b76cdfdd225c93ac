import Derived.Test.YtmmfjonoenmplaaDoorTrA
import Derived.Lib.AtoiAllCases
namespace Go.Proofs.YtmmfjonoenmplaaDoor
open Go
set_option linter.unusedVariables false
set_option linter.unusedSimpArgs false
/-! chapter 2, plain: texts of numbers -/
def isD (c : UInt8) : Bool := decide (48 ≤ c.toNat) && decide (c.toNat ≤ 57)
theorem isD_iff {c : UInt8} : isD c = true ↔ 48 ≤ c.toNat ∧ c.toNat ≤ 57 := by unfold isD; simp
def sgD (s : List UInt8) : Nat := if s[0]? = some 45 then 1 else 0
def dgs (s : List UInt8) : List UInt8 := (s.drop (sgD s)).takeWhile isD
def iN (s : List UInt8) : Nat := sgD s + (dgs s).length
def okD (s : List UInt8) : Bool := decide (dgs s ≠ []) && !(decide ((dgs s)[0]? = some 48) && decide (1 < iN s))
def vlD (s : List UInt8) : Int := if sgD s = 1 then -(decV (dgs s) : Int) else (decV (dgs s) : Int)
def rsD (s : List UInt8) : List UInt8 := s.drop (iN s)
def sgL (s : List UInt8) : List UInt8 := if sgD s = 1 then [45] else []
/-- alike, as far as the bounds go -/
def Cl (n v : Int) : Prop := n = v ∨ (16777216 < n ∧ 16777216 < v) ∨ (n < -16777216 ∧ v < -16777216)
theorem sgD_le (s : List UInt8) : sgD s ≤ 1 ∧ (sgD s = 0 ∨ sgD s = 1) := by unfold sgD; split <;> omega
theorem sgL_len (s : List UInt8) : (sgL s).length = sgD s := by
  unfold sgL
  rcases (sgD_le s).2 with h | h <;> rw [h] <;> rfl
theorem takeW_eq (p : UInt8 → Bool) : ∀ l : List UInt8, l.takeWhile p = l.take (l.takeWhile p).length
  | [] => rfl
  | a :: l => by
    rw [List.takeWhile_cons]
    split
    · rw [List.length_cons, List.take_succ_cons, ← takeW_eq p l]
    · rfl
theorem takeW_all (p : UInt8 → Bool) : ∀ (l : List UInt8), ∀ b ∈ l.takeWhile p, p b = true
  | [], b, h => by cases h
  | a :: l, b, h => by
    rw [List.takeWhile_cons] at h
    split at h
    · rcases List.mem_cons.1 h with rfl | h
      · assumption
      · exact takeW_all p l b h
    · cases h
theorem takeW_next (p : UInt8 → Bool) : ∀ (l : List UInt8) (c : UInt8), l[(l.takeWhile p).length]? = some c → p c = false
  | [], c, h => by simp at h
  | a :: l, c, h => by
    rw [List.takeWhile_cons] at h
    split at h
    · rw [List.length_cons, List.getElem?_cons_succ] at h
      exact takeW_next p l c h
    · rename_i h1
      simp at h
      subst h
      simpa using h1
theorem takeW_app (p : UInt8 → Bool) : ∀ (l r : List UInt8), (∀ b ∈ l, p b = true) → (∀ c, r[0]? = some c → p c = false) → (l ++ r).takeWhile p = l
  | [], [], _, _ => rfl
  | [], c :: r, _, h => by
    rw [List.nil_append, List.takeWhile_cons, h c rfl]
    rfl
  | a :: l, r, h, h2 => by
    rw [List.cons_append, List.takeWhile_cons, h a (by simp), if_pos rfl, takeW_app p l r (fun b hb => h b (by simp [hb])) h2]
theorem dgs_all (s : List UInt8) : ∀ b ∈ dgs s, 48 ≤ b.toNat ∧ b.toNat ≤ 57 := fun b h => isD_iff.1 (takeW_all isD _ b h)
theorem sgD_split (s : List UInt8) : s = sgL s ++ s.drop (sgD s) := by
  unfold sgL
  rcases (sgD_le s).2 with h | h
  · rw [h]; simp
  · rw [h, if_pos rfl]
    unfold sgD at h
    split at h
    · rename_i h1
      cases s with
      | nil => cases h1
      | cons a l =>
        simp at h1
        rw [h1]
        rfl
    · omega
theorem iN_take (s : List UInt8) : s.take (iN s) = sgL s ++ dgs s := by
  have h : ∀ k, (sgL s ++ s.drop (sgD s)).take (sgD s + k) = sgL s ++ (s.drop (sgD s)).take k := fun k => by
    rw [List.take_append, sgL_len, List.take_of_length_le (by rw [sgL_len]; omega), Nat.add_sub_cancel_left]
  have h2 := h (dgs s).length
  rw [← sgD_split s] at h2
  unfold iN
  rw [h2]
  congr 1
  unfold dgs
  exact (takeW_eq isD _).symm
theorem iN_le (s : List UInt8) : iN s ≤ s.length := by
  have h := congrArg List.length (iN_take s)
  rw [List.length_append, sgL_len, List.length_take] at h
  unfold iN at *
  omega
theorem iN_split (s : List UInt8) : s = sgL s ++ dgs s ++ rsD s := by
  rw [← iN_take]
  exact (List.take_append_drop _ _).symm
theorem iN_next (s : List UInt8) (c : UInt8) (h : s[iN s]? = some c) : isD c = false := by
  apply takeW_next isD (s.drop (sgD s))
  rw [List.getElem?_drop]
  exact h
/-- what stands at a place that has been gone through -/
theorem iN_at {s : List UInt8} {k : Nat} (h1 : sgD s ≤ k) (h2 : k < iN s) : ∃ c, s[k]? = some c ∧ isD c = true := by
  obtain ⟨c, hc⟩ : ∃ c, (dgs s)[k - sgD s]? = some c := ⟨_, List.getElem?_eq_getElem (by unfold iN at h2; omega)⟩
  refine ⟨c, ?_, takeW_all isD _ c (List.mem_of_getElem? hc)⟩
  rw [iN_split s, List.append_assoc, List.getElem?_append_right (by rw [sgL_len]; exact h1), sgL_len, List.getElem?_append_left (by unfold iN at h2; omega)]
  exact hc
/-- the first place from the sign on where no digit stands is that -/
theorem iN_is {s : List UInt8} {k : Nat} (h1 : sgD s ≤ k) (hk : k ≤ s.length) (h2 : ∀ j, sgD s ≤ j → j < k → ∃ c, s[j]? = some c ∧ isD c = true) (h3 : ∀ c, s[k]? = some c → isD c = false) : iN s = k := by
  rcases Nat.lt_trichotomy (iN s) k with h | h | h
  · obtain ⟨c, hc, hd⟩ := h2 (iN s) (by unfold iN; omega) h
    have := iN_next s c hc
    rw [this] at hd
    cases hd
  · exact h
  · obtain ⟨c, hc, hd⟩ := iN_at h1 h
    rw [h3 c hc] at hd
    cases hd
theorem decV_push (l : List UInt8) (c : UInt8) : decV (l ++ [c]) = decV l * 10 + (c.toNat - 48) := by
  unfold decV
  rw [List.foldl_append]
  rfl
theorem fold_ge : ∀ (l : List UInt8) (a : Nat), a ≤ l.foldl (fun a b => a * 10 + (b.toNat - 48)) a
  | [], a => Nat.le_refl _
  | b :: l, a => by
    rw [List.foldl_cons]
    have := fold_ge l (a * 10 + (b.toNat - 48))
    omega
theorem parse_digits : ∀ (l : List UInt8) (a : Nat), (∀ b ∈ l, 48 ≤ b.toNat ∧ b.toNat ≤ 57) → a < 18446744073709551616 →
    (Lib.parseUint10 a l = .ok (l.foldl (fun a b => a * 10 + (b.toNat - 48)) a)) ∨ (Lib.parseUint10 a l = .range ∧ 18446744073709551616 ≤ l.foldl (fun a b => a * 10 + (b.toNat - 48)) a)
  | [], a, _, _ => .inl rfl
  | b :: l, a, h, ha => by
    have hb := h b (by simp)
    rw [Lib.parseUint10, if_pos hb, List.foldl_cons]
    have hg := fold_ge l (a * 10 + (b.toNat - 48))
    by_cases h1 : 1844674407370955162 ≤ a
    · rw [if_pos h1]
      exact .inr ⟨rfl, by omega⟩
    · rw [if_neg h1]
      by_cases h2 : 18446744073709551616 ≤ a * 10 + (b.toNat - 48)
      · rw [if_pos h2]
        exact .inr ⟨rfl, by omega⟩
      · rw [if_neg h2]
        exact parse_digits l _ (fun c hc => h c (by simp [hc])) (by omega)
/-- what Atoi says of what stands at the front -/
theorem atoi_front (s : List UInt8) : (dgs s = [] ∧ Lib.atoiAll (s.take (iN s)) = .syntax) ∨ (dgs s ≠ [] ∧ Lib.atoiAll (s.take (iN s)) = .ok (vlD s)) ∨
    (dgs s ≠ [] ∧ Lib.atoiAll (s.take (iN s)) = .range ∧ (sgD s = 1 → vlD s < -16777216) ∧ (sgD s = 0 → 16777216 < vlD s)) := by
  rw [iN_take]
  have hd := dgs_all s
  have hs := (sgD_le s).2
  have hsL : sgL s = if sgD s = 1 then [45] else [] := rfl
  have hv : vlD s = if sgD s = 1 then -(decV (dgs s) : Int) else (decV (dgs s) : Int) := rfl
  obtain ⟨D, hD⟩ : ∃ D, dgs s = D := ⟨_, rfl⟩
  obtain ⟨g, hg⟩ : ∃ g, sgD s = g := ⟨_, rfl⟩
  rw [hD] at hd hv ⊢
  rw [hg] at hs hsL hv ⊢
  rw [hv, hsL]
  by_cases hn : D = []
  · left
    refine ⟨hn, ?_⟩
    rw [hn]
    rcases hs with h | h <;> rw [h] <;> rfl
  · right
    have hp := parse_digits D 0 hd (by decide)
    have hm : Lib.parseMag D = Lib.parseUint10 0 D := by unfold Lib.parseMag; rw [if_neg hn]
    rw [← hm] at hp
    rw [show D.foldl (fun a b => a * 10 + (b.toNat - 48)) 0 = decV D from rfl] at hp
    rcases hs with h | h
    · have hat : Lib.atoiAll D = Lib.signless (Lib.parseMag D) := by
        cases hc : D with
        | nil => exact absurd hc hn
        | cons c r =>
          have hb := hd c (by rw [hc]; simp)
          exact Lib.atoiAll_plain c r (by omega) (by omega)
      rw [h]
      simp only [Nat.zero_ne_one, if_false, List.nil_append]
      rw [hat]
      rcases hp with hp | ⟨hp, hp2⟩
      · rw [hp]
        by_cases h2 : 9223372036854775808 ≤ decV D
        · right
          exact ⟨hn, by simp [Lib.signless, h2], by intro h; simp at h, by intro _; omega⟩
        · left
          exact ⟨hn, by simp [Lib.signless, h2]⟩
      · right
        rw [hp]
        exact ⟨hn, rfl, by intro h; simp at h, by intro _; omega⟩
    · rw [h]
      simp only [if_true, List.singleton_append]
      rw [Lib.atoiAll_minus]
      rcases hp with hp | ⟨hp, hp2⟩
      · rw [hp]
        by_cases h2 : 9223372036854775808 < decV D
        · right
          exact ⟨hn, by simp [Lib.signed, h2], by intro _; omega, by intro h; simp at h⟩
        · left
          exact ⟨hn, by simp [Lib.signed, h2]⟩
      · right
        rw [hp]
        exact ⟨hn, rfl, by intro _; omega, by intro h; simp at h⟩
/-- what Parse makes of a text: its parts, without bounds -/
def parseZ (s : List UInt8) : Option (Int × Int) :=
  if okD s = true then
    (if rsD s = [] then some (vlD s, 0)
    else if vlD s = 0 then none
    else if rsD s = [105] then some (0, vlD s)
    else if (rsD s)[0]? = some 43 then
      (if okD ((rsD s).drop 1) = true ∧ vlD ((rsD s).drop 1) ≠ 0 ∧ rsD ((rsD s).drop 1) = [105] ∧ sgD ((rsD s).drop 1) = 0 then some (vlD s, vlD ((rsD s).drop 1)) else none)
    else if (rsD s)[0]? = some 45 then
      (if okD (rsD s) = true ∧ vlD (rsD s) ≠ 0 ∧ rsD (rsD s) = [105] then some (vlD s, vlD (rsD s)) else none)
    else none)
  else none
/-! there and back -/
theorem dec_head : ∀ u : Nat, 0 < u → (Lib.decDigits u)[0]? ≠ some 48 := by
  intro u
  induction u using Nat.strongRecOn with
  | _ u ih =>
    intro h0
    rw [Lib.decDigits]
    split
    · intro h
      rw [List.getElem?_cons_zero] at h
      have := congrArg UInt8.toNat (Option.some.inj h)
      rw [UInt8.toNat_ofNat'] at this
      have e : (48 : UInt8).toNat = 48 := rfl
      omega
    · rw [List.getElem?_append_left (by have := dec_ne (u / 10); exact List.length_pos_iff.2 this)]
      exact ih (u / 10) (by omega) (by omega)
theorem decV_zero {l : List UInt8} (hd : ∀ b ∈ l, 48 ≤ b.toNat ∧ b.toNat ≤ 57) (hn : l ≠ []) (h48 : l[0]? ≠ some 48) : 0 < decV l := by
  cases l with
  | nil => exact absurd rfl hn
  | cons c r =>
    have hb := hd c (by simp)
    have h1 : c.toNat ≠ 48 := fun e => h48 (by simp; exact UInt8.toNat_inj.1 e)
    unfold decV
    rw [List.foldl_cons]
    have := fold_ge r (0 * 10 + (c.toNat - 48))
    omega
theorem dec_back : ∀ (k : Nat) (l : List UInt8), l.length ≤ k → (∀ b ∈ l, 48 ≤ b.toNat ∧ b.toNat ≤ 57) → l ≠ [] → (l[0]? ≠ some 48 ∨ l.length = 1) → Lib.decDigits (decV l) = l
  | 0, l, hk, _, hn, _ => absurd (List.eq_nil_of_length_eq_zero (by omega)) hn
  | k + 1, l, hk, hd, hn, h48 => by
    obtain ⟨m, c, rfl⟩ : ∃ m c, l = m ++ [c] := ⟨l.dropLast, l.getLast hn, (List.dropLast_concat_getLast hn).symm⟩
    have hc := hd c (by simp)
    have hcc : UInt8.ofNat (48 + (c.toNat - 48)) = c := by rw [show 48 + (c.toNat - 48) = c.toNat by omega]; exact UInt8.ofNat_toNat
    rw [decV_push]
    by_cases hm : m = []
    · subst hm
      show Lib.decDigits (0 * 10 + (c.toNat - 48)) = [c]
      rw [Lib.decDigits, dif_pos (by omega), show 0 * 10 + (c.toNat - 48) = c.toNat - 48 by omega, hcc]
    · have hml : 0 < m.length := List.length_pos_iff.2 hm
      have h0 : m[0]? ≠ some 48 := by
        rcases h48 with h | h
        · rw [List.getElem?_append_left hml] at h
          exact h
        · rw [List.length_append, List.length_singleton] at h
          omega
      have hdm : ∀ b ∈ m, 48 ≤ b.toNat ∧ b.toNat ≤ 57 := fun b hb => hd b (by simp [hb])
      have hp := decV_zero hdm hm h0
      rw [List.length_append, List.length_singleton] at hk
      have ih := dec_back k m (by omega) hdm hm (.inl h0)
      rw [Lib.decDigits, dif_neg (by omega), show (decV m * 10 + (c.toNat - 48)) / 10 = decV m by omega, show (decV m * 10 + (c.toNat - 48)) % 10 = c.toNat - 48 by omega, ih, hcc]
theorem okD_iff {s : List UInt8} : okD s = true ↔ dgs s ≠ [] ∧ ¬ ((dgs s)[0]? = some 48 ∧ 1 < iN s) := by
  unfold okD
  rw [Bool.and_eq_true, decide_eq_true_eq, Bool.not_eq_true', Bool.and_eq_false_iff, decide_eq_false_iff_not, decide_eq_false_iff_not]
  constructor
  · rintro ⟨h1, h2⟩
    exact ⟨h1, fun h => h2.elim (fun h3 => h3 h.1) (fun h3 => h3 h.2)⟩
  · rintro ⟨h1, h2⟩
    refine ⟨h1, ?_⟩
    by_cases h3 : (dgs s)[0]? = some 48
    · exact .inr (fun h4 => h2 ⟨h3, h4⟩)
    · exact .inl h3
/-- a number that is right stands there as it is written -/
theorem okD_itoa {s : List UInt8} (h : okD s = true) : Lib.itoa (vlD s) ++ rsD s = s ∧ (sgD s = 1 → vlD s < 0) ∧ (sgD s = 0 → 0 ≤ vlD s) := by
  obtain ⟨h1, h2⟩ := okD_iff.1 h
  have hd := dgs_all s
  have hsp := iN_split s
  have hl : 0 < (dgs s).length := List.length_pos_iff.2 h1
  rcases (sgD_le s).2 with hg | hg
  · have hv : vlD s = (decV (dgs s) : Int) := by unfold vlD; rw [hg]; rfl
    have hL : sgL s = [] := by unfold sgL; rw [hg]; rfl
    refine ⟨?_, fun h => by omega, fun _ => by rw [hv]; omega⟩
    rw [hv, itoa_nat, dec_back _ _ (Nat.le_refl _) hd h1 ?_]
    · rw [hL] at hsp; exact hsp.symm
    · by_cases h3 : (dgs s)[0]? = some 48
      · right
        have : ¬ 1 < iN s := fun h4 => h2 ⟨h3, h4⟩
        unfold iN at this
        omega
      · exact .inl h3
  · have hv : vlD s = -(decV (dgs s) : Int) := by unfold vlD; rw [hg]; rfl
    have hL : sgL s = [45] := by unfold sgL; rw [hg]; rfl
    have h3 : (dgs s)[0]? ≠ some 48 := fun h3 => h2 ⟨h3, by unfold iN; omega⟩
    have hp := decV_zero hd h1 h3
    refine ⟨?_, fun _ => by rw [hv]; omega, fun h => by omega⟩
    unfold Lib.itoa
    rw [if_pos (by rw [hv]; omega), show (vlD s).natAbs = decV (dgs s) by rw [hv]; omega, dec_back _ _ (Nat.le_refl _) hd h1 (.inl h3)]
    rw [hL] at hsp
    exact hsp.symm
/-- a number that is written is read -/
theorem itoa_okD (n : Int) (r : List UInt8) (hr : ∀ c, r[0]? = some c → isD c = false) : okD (Lib.itoa n ++ r) = true ∧ vlD (Lib.itoa n ++ r) = n ∧ rsD (Lib.itoa n ++ r) = r ∧ (sgD (Lib.itoa n ++ r) = 1 ↔ n < 0) := by
  by_cases hn : n < 0
  · have hi : Lib.itoa n = 45 :: Lib.decDigits n.natAbs := by unfold Lib.itoa; rw [if_pos hn]
    rw [hi]
    have hg : sgD (45 :: Lib.decDigits n.natAbs ++ r) = 1 := by unfold sgD; rw [List.cons_append]; rfl
    have hD : dgs (45 :: Lib.decDigits n.natAbs ++ r) = Lib.decDigits n.natAbs := by
      unfold dgs
      rw [hg, List.cons_append, List.drop_succ_cons, List.drop_zero]
      exact takeW_app isD _ _ (fun b hb => isD_iff.2 (dec_bytes _ b hb)) hr
    refine ⟨okD_iff.2 ⟨by rw [hD]; exact dec_ne _, fun h => dec_head n.natAbs (by omega) (by rw [← hD]; exact h.1)⟩, ?_, ?_, by rw [hg]; simp [hn]⟩
    · unfold vlD
      rw [hg, hD, decV_dec]
      simp
      omega
    · unfold rsD iN
      rw [hg, hD, List.cons_append, Nat.add_comm, List.drop_succ_cons, List.drop_left]
  · have hi : Lib.itoa n = Lib.decDigits n.toNat := itoa_pos (by omega)
    rw [hi]
    have hl : 0 < (Lib.decDigits n.toNat).length := List.length_pos_iff.2 (dec_ne _)
    have hg : sgD (Lib.decDigits n.toNat ++ r) = 0 := by
      unfold sgD
      rw [if_neg]
      rw [List.getElem?_append_left hl]
      intro h
      have := dec_bytes _ 45 (List.mem_of_getElem? h)
      revert this; decide
    have hD : dgs (Lib.decDigits n.toNat ++ r) = Lib.decDigits n.toNat := by
      unfold dgs
      rw [hg, List.drop_zero]
      exact takeW_app isD _ _ (fun b hb => isD_iff.2 (dec_bytes _ b hb)) hr
    refine ⟨okD_iff.2 ⟨by rw [hD]; exact dec_ne _, fun h => ?_⟩, ?_, ?_, by rw [hg]; simp; omega⟩
    · rw [hD] at h
      by_cases h0 : n.toNat = 0
      · have h2 := h.2
        unfold iN at h2
        rw [hg, hD, h0, Lib.decDigits, dif_pos (by decide)] at h2
        simp at h2
      · exact dec_head n.toNat (by omega) h.1
    · unfold vlD
      rw [hg, hD, decV_dec]
      simp
      omega
    · unfold rsD iN
      rw [hg, hD, Nat.zero_add, List.drop_left]
end Go.Proofs.YtmmfjonoenmplaaDoor
