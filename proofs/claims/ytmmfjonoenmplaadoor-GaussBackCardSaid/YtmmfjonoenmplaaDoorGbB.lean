import Derived.Test.YtmmfjonoenmplaaDoorGbA
import Derived.Test.YtmmfjonoenmplaaDoorGaK
namespace Go.Proofs.YtmmfjonoenmplaaDoor
open Go
set_option linter.unusedVariables false
set_option linter.unusedSimpArgs false
/-! chapter 2, plain: there and back -/
theorem parse_print (a : Int × Int) : parseZ (printL a) = some a := by
  obtain ⟨x, y⟩ := a
  have n105 : ∀ c, ([105] : List UInt8)[0]? = some c → isD c = false := fun c h => by simp at h; subst h; rfl
  unfold printL
  simp only
  by_cases hy : y = 0
  · rw [if_pos hy]
    have h := itoa_okD x [] (fun c h => by simp at h)
    rw [List.append_nil] at h
    unfold parseZ
    rw [if_pos h.1, if_pos h.2.2.1, h.2.1, hy]
  · rw [if_neg hy]
    by_cases hx : x = 0
    · rw [if_pos hx]
      have h := itoa_okD y [105] n105
      unfold parseZ
      rw [if_pos h.1, h.2.2.1, h.2.1, if_neg (by simp), if_neg hy, if_pos rfl, hx]
    · rw [if_neg hx]
      by_cases hp : 0 < y
      · rw [if_pos hp]
        rw [show Lib.itoa x ++ [43] ++ Lib.itoa y ++ [105] = Lib.itoa x ++ (43 :: (Lib.itoa y ++ [105])) by simp]
        have h := itoa_okD x (43 :: (Lib.itoa y ++ [105])) (fun c h => by simp at h; subst h; rfl)
        have h2 := itoa_okD y [105] n105
        unfold parseZ
        rw [if_pos h.1, h.2.2.1, h.2.1, if_neg (by simp), if_neg hx, if_neg (by simp), if_pos (by simp), List.drop_succ_cons, List.drop_zero, h2.2.1, h2.2.2.1]
        rw [if_pos ⟨h2.1, hy, rfl, by
          rcases (sgD_le (Lib.itoa y ++ [105])).2 with h3 | h3
          · exact h3
          · have := h2.2.2.2.1 h3; omega⟩]
      · rw [if_neg hp]
        have h2 := itoa_okD y [105] n105
        have hyn : y < 0 := by omega
        have hi : Lib.itoa y = 45 :: Lib.decDigits y.natAbs := by unfold Lib.itoa; rw [if_pos hyn]
        rw [List.append_assoc]
        have h := itoa_okD x (Lib.itoa y ++ [105]) (fun c h => by rw [hi] at h; simp at h; subst h; rfl)
        unfold parseZ
        rw [if_pos h.1, h.2.2.1, h.2.1, if_neg (by simp), if_neg hx, if_neg (by rw [hi]; simp), if_neg (by rw [hi]; simp), if_pos (by rw [hi]; simp), h2.2.1, h2.2.2.1, if_pos ⟨h2.1, hy, rfl⟩]
theorem head_cons {l : List UInt8} {c : UInt8} (h : l[0]? = some c) : l = c :: l.drop 1 := by
  cases l with
  | nil => cases h
  | cons a r => simp at h; rw [h]; rfl
theorem print_parse {s : List UInt8} {a : Int × Int} (h : parseZ s = some a) : printL a = s := by
  unfold parseZ at h
  split at h
  · rename_i ho
    obtain ⟨hs, hs1, hs2⟩ := okD_itoa ho
    split at h
    · rename_i hr
      injection h with h
      rw [hr, List.append_nil] at hs
      rw [← h]
      unfold printL
      rw [if_pos rfl]
      exact hs
    · split at h
      · cases h
      · rename_i hv0
        split at h
        · rename_i hr
          injection h with h
          rw [hr] at hs
          rw [← h]
          unfold printL
          simp only
          rw [if_neg hv0, if_pos trivial]
          exact hs
        · split at h
          · rename_i h43
            split at h
            · rename_i hc
              obtain ⟨c1, c2, c3, c4⟩ := hc
              injection h with h
              obtain ⟨ht, ht1, ht2⟩ := okD_itoa c1
              have hr := head_cons h43
              rw [c3] at ht
              rw [← ht] at hr
              rw [← h]
              unfold printL
              simp only
              rw [if_neg c2, if_neg hv0, if_pos (by have := ht2 c4; omega)]
              conv => rhs; rw [← hs, hr]
              simp
            · cases h
          · split at h
            · rename_i h45
              split at h
              · rename_i hc
                obtain ⟨c1, c2, c3⟩ := hc
                injection h with h
                obtain ⟨ht, ht1, ht2⟩ := okD_itoa c1
                have hg : sgD (rsD s) = 1 := by unfold sgD; rw [if_pos h45]
                rw [c3] at ht
                rw [← h]
                unfold printL
                simp only
                rw [if_neg c2, if_neg hv0, if_neg (by have := ht1 hg; omega)]
                conv => rhs; rw [← hs, ← ht]
                simp
              · cases h
            · cases h
  · cases h
end Go.Proofs.YtmmfjonoenmplaaDoor
