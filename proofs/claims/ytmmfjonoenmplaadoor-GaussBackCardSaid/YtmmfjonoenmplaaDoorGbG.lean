import Derived.Test.YtmmfjonoenmplaaDoorGbF
import Derived.Test.YtmmfjonoenmplaaDoorGaL
namespace Go.Proofs.YtmmfjonoenmplaaDoor
open Go.RowKit Go.Extern.Stop Go.Stop Go.Extern
set_option linter.unusedVariables false
set_option linter.unusedSimpArgs false
/-! chapter 2: the program's Parse -/
theorem Cl.zero {n v : Int} (h : Cl n v) : n = 0 ↔ v = 0 := by unfold Cl at h; omega
theorem Cl.neg {n v : Int} (h : Cl n v) : n < 0 ↔ v < 0 := by unfold Cl at h; omega
theorem res_cl {n m a b : Int} (h1 : Cl n a) (h2 : Cl m b) : res (n, m) = res (a, b) := by
  unfold res toldV
  simp only
  by_cases h : a.natAbs ≤ 16777216 ∧ b.natAbs ≤ 16777216
  · unfold Cl at h1 h2
    have e1 : n = a := by omega
    have e2 : m = b := by omega
    rw [e1, e2]
  · rw [if_neg h, if_neg (by unfold Cl at h1 h2; omega)]
def paV : Option (Int × Int) → Value
  | none => .tuple #[.complex .f64 0 0, .int .i64 4]
  | some a => res a
theorem ext_lst (s : ByteArray) (k : Nat) : (s.extract k s.size).data.toList = s.data.toList.drop k := by
  rw [Lib.extract_eq, List.take_of_length_le]
  rw [List.length_drop, data_size]
  omega
theorem eq_lit {R : ByteArray} {l : List UInt8} (h : R.data.toList = l) : (R.toList == l) = true ∧ (R.toList != l) = false := by rw [Lib.toList_data, h]; simp
theorem ne_lit {R : ByteArray} {l : List UInt8} (h : R.data.toList ≠ l) : (R.toList == l) = false ∧ (R.toList != l) = true := by rw [Lib.toList_data]; simpa using h
theorem emp_lit {R : ByteArray} (h : R.data.toList = []) : R.toList.isEmpty = true := by rw [Lib.toList_data, h]; rfl
theorem nem_lit {R : ByteArray} (h : R.data.toList ≠ []) : R.toList.isEmpty = false := by
  rw [Lib.toList_data]
  cases hl : R.data.toList with
  | nil => exact absurd hl h
  | cons => rfl
set_option maxRecDepth 100000 in
set_option maxHeartbeats 4000000 in
theorem gparse_any (s : ByteArray) (hs : s.size ≤ 281474976710656) (w : World) (hM : Mq w) : Calls Tryd.prog 44 #[.string s] w (fun e w' => e = .returned (paV (parseZ s.data.toList)) ∧ Below w.heap.size w w') := by
  have hd := Lib.hid (digits_any s hs w hM)
  have hel := ext_lst s (iN s.data.toList)
  obtain ⟨R, hR⟩ : ∃ R, s.extract (iN s.data.toList) s.size = R := ⟨_, rfl⟩
  have hRs : R.size ≤ s.size := by rw [← hR, ByteArray.size_extract]; omega
  rw [hR] at hel
  have hrs : rsD s.data.toList = R.data.toList := hel.symm
  have hk : ∀ W, Below w.heap.size w W → Mq W := fun W h => hM.bel h
  replace hk := Lib.hid hk
  obtain ⟨P, hP⟩ : ∃ P, parseZ s.data.toList = P := ⟨_, rfl⟩
  rw [hP]
  unfold parseZ at hP
  rw [hrs] at hP
  clear hM hel hrs
  go_enter Tryd.func44, Tryd.ntmps44
  go_wp2_with (fail)
  refine hd.out.mono ?_
  rintro e w1 ⟨hq, hb⟩
  have hB := Lib.hid hb
  clear hb hd
  rw [hR] at hq
  rcases hq with ⟨ho, n, hn, hc, rfl⟩ | ⟨ho, rfl⟩
  · rw [if_pos ho] at hP
    obtain ⟨V, hV⟩ : ∃ V, vlD s.data.toList = V := ⟨_, rfl⟩
    rw [hV] at hP hc
    have hz := hc.zero
    replace hc := Lib.hid hc
    clear ho hR hV
    by_cases hr0 : R.data.toList = []
    · have g1 := emp_lit hr0
      obtain ⟨g2, g3⟩ := eq_lit hr0
      rw [if_pos hr0] at hP
      replace hP := Lib.hid hP.symm
      clear hr0 hz
      have hof := Lib.hid (fun w => of_all (n, 0) w)
      unfold res toldV at hof
      simp only at hof
      obtain ⟨vv, qq, hvq⟩ := toldV_form n 0
      unfold toldV at hvq
      simp only [hvq] at hof
      go_wp2_with (fail)
      refine (hof.out _).mono ?_
      rintro e w9 ⟨rfl, hw9⟩
      have hw9 := hw9.symm
      subst hw9
      go_wp2_with (fail)
      go_returns
      rw [hP.out]
      refine ⟨?_, hB.out⟩
      rw [show paV (some _) = res _ from rfl]
      rw [← res_cl hc.out (Cl.refl 0)]
      unfold res toldV
      simp only [hvq]
      rfl
    · have g1 := nem_lit hr0
      obtain ⟨g2, g3⟩ := ne_lit hr0
      rw [if_neg hr0] at hP
      by_cases hn0 : n = 0
      · rw [if_pos (hz.1 hn0)] at hP
        replace hP := Lib.hid hP.symm
        subst hn0
        clear hr0 hz
        by_cases hr1 : R.data.toList = [105]
        · obtain ⟨g4, g5⟩ := eq_lit hr1
          clear hr1
          go_wp2_with (fail)
          go_returns
          rw [hP.out]
          exact ⟨rfl, hB.out⟩
        · obtain ⟨g4, g5⟩ := ne_lit hr1
          clear hr1
          go_wp2_with (fail)
          go_returns
          rw [hP.out]
          exact ⟨rfl, hB.out⟩
      · have hv0 : ¬ V = 0 := fun h => hn0 (hz.2 h)
        have n0 : (n == 0) = false := by simpa using hn0
        have n1 : (n != 0) = true := by simpa using hn0
        rw [if_neg hv0] at hP
        clear hn0 hz
        by_cases hr1 : R.data.toList = [105]
        · obtain ⟨g4, g5⟩ := eq_lit hr1
          rw [if_pos hr1] at hP
          replace hP := Lib.hid hP.symm
          clear hr1 hr0
          have hof := Lib.hid (fun w => of_all (0, n) w)
          unfold res toldV at hof
          simp only at hof
          obtain ⟨vv, qq, hvq⟩ := toldV_form 0 n
          unfold toldV at hvq
          simp only [hvq] at hof
          go_wp2_with (fail)
          refine (hof.out _).mono ?_
          rintro e w9 ⟨rfl, hw9⟩
          have hw9 := hw9.symm
          subst hw9
          go_wp2_with (fail)
          go_returns
          rw [hP.out]
          refine ⟨?_, hB.out⟩
          rw [show paV (some _) = res _ from rfl]
          rw [← res_cl (Cl.refl 0) hc.out]
          unfold res toldV
          simp only [hvq]
          rfl
        · obtain ⟨g4, g5⟩ := ne_lit hr1
          rw [if_neg hr1] at hP
          clear hr1
          have hRl : 0 < R.size := by
            rw [← data_size]
            exact List.length_pos_iff.2 hr0
          have hRI : (0 : Int) < (R.size : Int) := by omega
          rw [byteq R 0 hRl] at hP
          obtain ⟨c0, hc0⟩ : ∃ c, R[0] = c := ⟨_, rfl⟩
          obtain ⟨z0, hz0⟩ : ∃ z, c0.toNat = z := ⟨_, rfl⟩
          have hidx0 := idx_run0 R z0 hRl (by rw [hc0]; exact hz0)
          rw [hc0] at hP
          clear hr0 hc0
          by_cases h43 : z0 = 43
          · have hcc : c0 = 43 := UInt8.toNat_inj.1 (by rw [hz0, h43]; rfl)
            rw [if_pos (by rw [hcc])] at hP
            subst h43
            clear hz0 hcc
            have hel := ext_lst R 1
            obtain ⟨T, hT⟩ : ∃ S, R.extract 1 R.size = S := ⟨_, rfl⟩
            have hTs : T.size ≤ s.size := by rw [← hT, ByteArray.size_extract]; omega
            rw [hT] at hel
            rw [← hel] at hP
            have hR1I : (1 : Int) ≤ (R.size : Int) := by omega
            have hd := digits_any T (by omega) w1 (hk.out _ hB.out)
            replace hd := Lib.hid hd
            have hTl := Lib.hid hTs
            clear hel hRl hTs
            go_wp2_with (fail)
            refine hd.out.mono ?_
            rintro e w2_ ⟨hq, hb⟩
            replace hB := Lib.hid (hB.out.trans (hb.mono hB.out.size))
            clear hb hd
            have hel := ext_lst T (iN (T).data.toList)
            obtain ⟨R2, hR2⟩ : ∃ S, (T).extract (iN (T).data.toList) (T).size = S := ⟨_, rfl⟩
            rw [hR2] at hel hq
            have hrs : rsD (T).data.toList = R2.data.toList := hel.symm
            rw [hrs] at hP
            clear hel hrs hR2
            rcases hq with ⟨ho2, m, hm, hc2, rfl⟩ | ⟨ho2, rfl⟩
            · have hsg := okD_itoa ho2
              obtain ⟨V2, hV2⟩ : ∃ V, vlD (T).data.toList = V := ⟨_, rfl⟩
              rw [hV2] at hP hc2 hsg
              have hz2 := hc2.zero
              have hg2 := hc2.neg
              replace hc2 := Lib.hid hc2
              clear hV2
              by_cases hm0 : m = 0
              · rw [if_neg (fun h => by first | exact h.2.1 (hz2.1 hm0) | exact h.1.2.1 (hz2.1 hm0))] at hP
                replace hP := Lib.hid hP.symm
                subst hm0
                clear hz2 hg2 hsg ho2
                go_wp2_with (fail)
                go_returns
                rw [hP.out]
                exact ⟨rfl, hB.out⟩
              · have hv2 : ¬ V2 = 0 := fun h => hm0 (hz2.2 h)
                have m0 : (m == 0) = false := by simpa using hm0
                have m1 : (m != 0) = true := by simpa using hm0
                by_cases hr2 : R2.data.toList = [105]
                · obtain ⟨g6, g7⟩ := eq_lit hr2
                  by_cases hmn : true = true ∧ m < 0
                  · first
                      | exact absurd hmn.1 (by decide)
                      | (have hmn2 := hmn.2
                         rw [if_neg (fun h => by have h9 := hsg.2.2 h.2.2.2; have h8 := hg2.1 hmn2; omega)] at hP
                         replace hP := Lib.hid hP.symm
                         clear hz2 hg2 hsg ho2 hr2 hv2 hm0 hmn
                         go_wp2_with (fail)
                         go_returns
                         rw [hP.out]
                         exact ⟨rfl, hB.out⟩)
                  · rw [if_pos (by
                      first
                        | exact ⟨ho2, hv2, hr2⟩
                        | exact ⟨ho2, hv2, hr2, by
                            rcases (sgD_le (T).data.toList).2 with h3 | h3
                            · exact h3
                            · exact absurd ⟨rfl, hg2.2 (hsg.2.1 h3)⟩ hmn⟩)] at hP
                    replace hP := Lib.hid hP.symm
                    have hmn3 : true = true → ¬ m < 0 := fun h h2 => hmn ⟨h, h2⟩
                    try replace hmn3 := hmn3 rfl
                    clear hz2 hg2 hsg ho2 hr2 hv2 hm0 hmn
                    have hof := Lib.hid (fun w => of_all (n, m) w)
                    unfold res toldV at hof
                    simp only at hof
                    obtain ⟨vv, qq, hvq⟩ := toldV_form n m
                    unfold toldV at hvq
                    simp only [hvq] at hof
                    go_wp2_with (fail)
                    refine (hof.out _).mono ?_
                    rintro e w9 ⟨rfl, hw9⟩
                    have hw9 := hw9.symm
                    subst hw9
                    go_wp2_with (fail)
                    go_returns
                    rw [hP.out]
                    refine ⟨?_, hB.out⟩
                    rw [show paV (some _) = res _ from rfl]
                    rw [← res_cl hc.out hc2.out]
                    unfold res toldV
                    simp only [hvq]
                    rfl
                · obtain ⟨g6, g7⟩ := ne_lit hr2
                  rw [if_neg (fun h => hr2 (by first | exact h.2.2 | exact h.2.2.1))] at hP
                  replace hP := Lib.hid hP.symm
                  clear hz2 hg2 hsg ho2 hr2 hv2 hm0
                  go_wp2_with (fail)
                  go_returns
                  rw [hP.out]
                  exact ⟨rfl, hB.out⟩
            · rw [if_neg (fun h => by rw [ho2] at h; cases h.1)] at hP
              replace hP := Lib.hid hP.symm
              clear ho2
              go_wp2_with (fail)
              go_returns
              rw [hP.out]
              exact ⟨rfl, hB.out⟩
          · by_cases h45 : z0 = 45
            · have hcc : c0 = 45 := UInt8.toNat_inj.1 (by rw [hz0, h45]; rfl)
              rw [if_neg (by rw [hcc]; decide), if_pos (by rw [hcc])] at hP
              subst h45
              clear hz0 hcc h43
              have hd := digits_any R (by omega) w1 (hk.out _ hB.out)
              replace hd := Lib.hid hd
              clear hRl
              go_wp2_with (fail)
              refine hd.out.mono ?_
              rintro e w2_ ⟨hq, hb⟩
              replace hB := Lib.hid (hB.out.trans (hb.mono hB.out.size))
              clear hb hd
              have hel := ext_lst R (iN (R).data.toList)
              obtain ⟨R2, hR2⟩ : ∃ S, (R).extract (iN (R).data.toList) (R).size = S := ⟨_, rfl⟩
              rw [hR2] at hel hq
              have hrs : rsD (R).data.toList = R2.data.toList := hel.symm
              rw [hrs] at hP
              clear hel hrs hR2
              rcases hq with ⟨ho2, m, hm, hc2, rfl⟩ | ⟨ho2, rfl⟩
              · have hsg := okD_itoa ho2
                obtain ⟨V2, hV2⟩ : ∃ V, vlD (R).data.toList = V := ⟨_, rfl⟩
                rw [hV2] at hP hc2 hsg
                have hz2 := hc2.zero
                have hg2 := hc2.neg
                replace hc2 := Lib.hid hc2
                clear hV2
                by_cases hm0 : m = 0
                · rw [if_neg (fun h => by first | exact h.2.1 (hz2.1 hm0) | exact h.1.2.1 (hz2.1 hm0))] at hP
                  replace hP := Lib.hid hP.symm
                  subst hm0
                  clear hz2 hg2 hsg ho2
                  go_wp2_with (fail)
                  go_returns
                  rw [hP.out]
                  exact ⟨rfl, hB.out⟩
                · have hv2 : ¬ V2 = 0 := fun h => hm0 (hz2.2 h)
                  have m0 : (m == 0) = false := by simpa using hm0
                  have m1 : (m != 0) = true := by simpa using hm0
                  by_cases hr2 : R2.data.toList = [105]
                  · obtain ⟨g6, g7⟩ := eq_lit hr2
                    by_cases hmn : false = true ∧ m < 0
                    · first
                        | exact absurd hmn.1 (by decide)
                        | (have hmn2 := hmn.2
                           rw [if_neg (fun h => by have h9 := hsg.2.2 h.2.2.2; have h8 := hg2.1 hmn2; omega)] at hP
                           replace hP := Lib.hid hP.symm
                           clear hz2 hg2 hsg ho2 hr2 hv2 hm0 hmn
                           go_wp2_with (fail)
                           go_returns
                           rw [hP.out]
                           exact ⟨rfl, hB.out⟩)
                    · rw [if_pos (by
                        first
                          | exact ⟨ho2, hv2, hr2⟩
                          | exact ⟨ho2, hv2, hr2, by
                              rcases (sgD_le (R).data.toList).2 with h3 | h3
                              · exact h3
                              · exact absurd ⟨rfl, hg2.2 (hsg.2.1 h3)⟩ hmn⟩)] at hP
                      replace hP := Lib.hid hP.symm
                      have hmn3 : false = true → ¬ m < 0 := fun h h2 => hmn ⟨h, h2⟩
                      try replace hmn3 := hmn3 rfl
                      clear hz2 hg2 hsg ho2 hr2 hv2 hm0 hmn
                      have hof := Lib.hid (fun w => of_all (n, m) w)
                      unfold res toldV at hof
                      simp only at hof
                      obtain ⟨vv, qq, hvq⟩ := toldV_form n m
                      unfold toldV at hvq
                      simp only [hvq] at hof
                      go_wp2_with (fail)
                      refine (hof.out _).mono ?_
                      rintro e w9 ⟨rfl, hw9⟩
                      have hw9 := hw9.symm
                      subst hw9
                      go_wp2_with (fail)
                      go_returns
                      rw [hP.out]
                      refine ⟨?_, hB.out⟩
                      rw [show paV (some _) = res _ from rfl]
                      rw [← res_cl hc.out hc2.out]
                      unfold res toldV
                      simp only [hvq]
                      rfl
                  · obtain ⟨g6, g7⟩ := ne_lit hr2
                    rw [if_neg (fun h => hr2 (by first | exact h.2.2 | exact h.2.2.1))] at hP
                    replace hP := Lib.hid hP.symm
                    clear hz2 hg2 hsg ho2 hr2 hv2 hm0
                    go_wp2_with (fail)
                    go_returns
                    rw [hP.out]
                    exact ⟨rfl, hB.out⟩
              · rw [if_neg (fun h => by rw [ho2] at h; cases h.1)] at hP
                replace hP := Lib.hid hP.symm
                clear ho2
                go_wp2_with (fail)
                go_returns
                rw [hP.out]
                exact ⟨rfl, hB.out⟩
            · rw [if_neg (fun h => h43 (by rw [← hz0, Option.some.inj h]; rfl)), if_neg (fun h => h45 (by rw [← hz0, Option.some.inj h]; rfl))] at hP
              replace hP := Lib.hid hP.symm
              have b1 : ((z0 : Int) == 43) = false := by simp; omega
              have b2 : ((z0 : Int) == 45) = false := by simp; omega
              clear hz0 h43 h45
              go_wp2_with (fail)
              go_returns
              rw [hP.out]
              exact ⟨rfl, hB.out⟩
  · rw [if_neg (by rw [ho]; simp)] at hP
    replace hP := Lib.hid hP.symm
    clear hR ho
    go_wp2_with (fail)
    go_returns
    rw [hP.out]
    exact ⟨rfl, hB.out⟩
end Go.Proofs.YtmmfjonoenmplaaDoor
