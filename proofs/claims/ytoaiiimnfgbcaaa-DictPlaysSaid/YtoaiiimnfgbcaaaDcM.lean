import Derived.Test.YtoaiiimnfgbcaaaDcL
namespace Go.Proofs.Ytoaiiimnfgbcaaa
open Go.RowKit
set_option linter.unusedVariables false
set_option linter.unusedSimpArgs false
/-! PLAIN: a chain of heads in the bytes, all of it ahead of h -/
def Chain (B : List UInt8) (f y h : Nat) : Nat → List Wd → Prop
  | l, [] => l = 0
  | l, x :: X => x.xt ≤ h ∧ ∃ nx : Nat, nx < l ∧ headP B f y (l : Int) = some (x, (nx : Int)) ∧ Chain B f y h nx X
theorem chain_walk {B : List UInt8} {f y h : Nat} (hf : 0 < f) : ∀ (X : List Wd) (l n : Nat), Chain B f y h l X → l < n → walkF B f y n (l : Int) = X := by
  intro X
  induction X with
  | nil =>
    intro l n hc hn
    have hl : l = 0 := hc
    subst hl
    cases n with
    | zero => omega
    | succ n =>
      have : headP B f y ((0 : Nat) : Int) = none := by unfold headP; rw [if_neg (by omega)]
      unfold walkF
      rw [this]
  | cons x X ih =>
    intro l n hc hn
    obtain ⟨h1, nx, h2, h3, h4⟩ := hc
    cases n with
    | zero => omega
    | succ n =>
      unfold walkF
      rw [h3]
      simp only
      rw [if_neg (by omega), ih nx n h4 (by omega)]
theorem chain_walkP {B : List UInt8} {f y h l : Nat} {X : List Wd} (hf : 0 < f) (hc : Chain B f y h l X) : walkP B f y l = X := chain_walk hf X l (l + 1) hc (Nat.lt_succ_self l)
theorem headP_same {B B' : List UInt8} {f y a : Nat} {x : Wd} {nx : Int} (hl : B'.length = B.length) (hB : y ≤ B.length) (h : headP B f y (a : Int) = some (x, nx)) (hs : ∀ i, i < x.xt → B'.getD i 0 = B.getD i 0) : headP B' f y (a : Int) = some (x, nx) := by
  unfold headP at h ⊢
  by_cases c1 : (a : Int) % 8 = 0 ∧ (f : Int) ≤ a ∧ (a : Int) + 16 ≤ y
  · rw [if_pos c1] at h ⊢
    simp only [Int.toNat_natCast] at h ⊢
    by_cases c2 : (B.getD (a + 8) 0).toNat % 32 ≠ 0 ∧ upN (a + 9 + (B.getD (a + 8) 0).toNat % 32) ≤ y
    · rw [if_pos c2] at h
      injection h with h
      injection h with hx hn
      have hu := upN_le (a + 9 + (B.getD (a + 8) 0).toNat % 32)
      have hxt : x.xt = upN (a + 9 + (B.getD (a + 8) 0).toNat % 32) := by rw [← hx]; rfl
      have e8 : B'.getD (a + 8) 0 = B.getD (a + 8) 0 := hs _ (by omega)
      have ec : cel B' a = cel B a := cel_congr _ _ _ _ (fun k hk => hs _ (by omega))
      have er : rowL B' (a + 9) ((B.getD (a + 8) 0).toNat % 32) = rowL B (a + 9) ((B.getD (a + 8) 0).toNat % 32) := by
        refine list_ext _ _ (by rw [rowL_len _ _ _ (by omega), rowL_len _ _ _ (by omega)]) (fun i hi => ?_)
        rw [rowL_len _ _ _ (by omega)] at hi
        unfold rowL
        rw [getD_drop _ _ _ _ hi, getD_drop _ _ _ _ hi]
        exact hs _ (by omega)
      rw [e8, if_pos c2, ec, hn, ← hx]
      unfold wdB
      rw [er]
    · rw [if_neg c2] at h; cases h
  · rw [if_neg c1] at h; cases h
theorem chain_same {B B' : List UInt8} {f y h h' : Nat} (hl : B'.length = B.length) (hB : y ≤ B.length) (hh : h ≤ h') (hs : ∀ i, i < h → B'.getD i 0 = B.getD i 0) : ∀ (X : List Wd) (l : Nat), Chain B f y h l X → Chain B' f y h' l X := by
  intro X
  induction X with
  | nil => intro l hc; exact hc
  | cons x X ih =>
    intro l hc
    obtain ⟨h1, nx, h2, h3, h4⟩ := hc
    exact ⟨by omega, nx, h2, headP_same hl hB h3 (fun i hi => hs i (by omega)), ih nx h4⟩
theorem mkB_len (k y l : Nat) (c : Bool) (B : List UInt8) : (mkB k y l c B).length = B.length := by
  unfold mkB
  split
  · rfl
  · rw [List.length_set]
theorem mkB_lo (k y l : Nat) (c : Bool) (B : List UInt8) (i : Nat) (hi : i < l + 8) : (mkB k y l c B).getD i 0 = B.getD i 0 := by
  unfold mkB
  split
  · rfl
  · rw [getD_set, if_neg (by omega)]
/-- one more word, hidden -/
theorem chain_cr {B : List UInt8} {f y h l : Nat} {X : List Wd} (nm : ByteArray) (h1 : 1 ≤ nm.size) (h2 : nm.size ≤ 31) (hf : f ≤ h) (hf0 : 0 < f) (hy : ¬ y < upN h + (8 + upN (1 + nm.size))) (hB : y ≤ B.length) (hl : l < upN h) (hl63 : l < 9223372036854775808) (hc : Chain B f y h l X) :
    Chain (crB B h l nm) f y (crH h nm.size) (upN h) (⟨nm, upN h, crH h nm.size, false, true, false⟩ :: X) := by
  have hu := upN_le h
  have hv := upN_le (upN h + 9 + nm.size)
  exact ⟨Nat.le_refl _, l, hl, head_cr B f y h l nm h1 h2 hf hy hB hl63, chain_same (crB_len _ _ _ _ (by omega)) hB (by unfold crH; omega) (fun i hi => crB_lo _ _ _ _ (by omega) i hi) X l hc⟩
/-- one more word, shown -/
theorem chain_sh {B : List UInt8} {f y h l : Nat} {X : List Wd} (nm : ByteArray) (h1 : 1 ≤ nm.size) (h2 : nm.size ≤ 31) (hf : f ≤ h) (hf0 : 0 < f) (hy : ¬ y < upN h + (8 + upN (1 + nm.size))) (hB : y ≤ B.length) (hl : l < upN h) (hl63 : l < 9223372036854775808) (hc : Chain B f y h l X) :
    Chain (mkB 0 y (upN h) false (crB B h l nm)) f y (crH h nm.size) (upN h) (⟨nm, upN h, crH h nm.size, false, false, false⟩ :: X) := by
  have hu := upN_le h
  have hv := upN_le (upN h + 9 + nm.size)
  have hcl := crB_len B h l nm (by omega)
  exact ⟨Nat.le_refl _, l, hl, head_sh B f y h l nm h1 h2 hf hf0 hy hB hl63, chain_same (by rw [mkB_len, hcl]) hB (by unfold crH; omega) (fun i hi => by rw [mkB_lo _ _ _ _ _ _ (by omega)]; exact crB_lo _ _ _ _ (by omega) i hi) X l hc⟩
end Go.Proofs.Ytoaiiimnfgbcaaa
