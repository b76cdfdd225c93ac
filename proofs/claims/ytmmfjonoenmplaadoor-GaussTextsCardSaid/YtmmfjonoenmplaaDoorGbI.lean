import Derived.Test.YtmmfjonoenmplaaDoorGbG
import Derived.Test.YtmmfjonoenmplaaDoorGbH
import Derived.Test.YtmmfjonoenmplaaDoorGaJ
namespace Go.Proofs.YtmmfjonoenmplaaDoor
open Go.RowKit Go.Extern.Stop Go.Stop Go.Extern
set_option linter.unusedVariables false
set_option linter.unusedSimpArgs false
/-! chapter 2: the document's Parse -/
def pbV : Option (Int × Int) → Value
  | none => .tuple #[zV (0, 0), .int .i64 4]
  | some a => if a.1.natAbs ≤ 16777216 ∧ a.2.natAbs ≤ 16777216 then .tuple #[zV a, .int .i64 0] else .tuple #[zV (0, 0), .int .i64 8]
theorem pb_cl {n m a b : Int} (h1 : Cl n a) (h2 : Cl m b) : pbV (some (n, m)) = pbV (some (a, b)) := by
  unfold pbV
  simp only
  by_cases h : a.natAbs ≤ 16777216 ∧ b.natAbs ≤ 16777216
  · unfold Cl at h1 h2
    have e1 : n = a := by omega
    have e2 : m = b := by omega
    rw [e1, e2]
  · rw [if_neg h, if_neg (by unfold Cl at h1 h2; omega)]
def Rz (w W : World) (g : Nat) (a b : Int) : Prop := Bk W g 25 #[.int .i64 0, .int .i64 0] ∧ Bk W (g + 1) 25 #[.int .i64 a, .int .i64 b] ∧ Below g w W
theorem Rz.put {w W : World} {g : Nat} {a b : Int} (h : Rz w W g a b) (a' b' : Int) : Rz w ((W.setCell ⟨g + 1, 0, none⟩ (.int .i64 a')).setCell ⟨g + 1, 1, none⟩ (.int .i64 b')) g a' b' :=
  ⟨(h.1.other (p := ⟨g + 1, 0, none⟩) (by simp) _).other (p := ⟨g + 1, 1, none⟩) (by simp) _, (h.2.1.put 0 _).put 1 _, (h.2.2.setCell (p := ⟨g + 1, 0, none⟩) (Nat.le_succ g) _).setCell (p := ⟨g + 1, 1, none⟩) (Nat.le_succ g) _⟩
theorem Rz.bel {w W W' : World} {g : Nat} {a b : Int} (h : Rz w W g a b) (hb : Below W.heap.size W W') : Rz w W' g a b := ⟨h.1.kept hb h.1.lt, h.2.1.kept hb h.2.1.lt, h.2.2.trans (hb.mono (Nat.le_of_lt h.1.lt))⟩
theorem Rz.fin {w W : World} {g : Nat} {a b : Int} (h : Rz w W g a b) (u v : Int) : Below g w ((W.setCell ⟨g, 0, none⟩ (.int .i64 u)).setCell ⟨g, 1, none⟩ (.int .i64 v)) :=
  (h.2.2.setCell (p := ⟨g, 0, none⟩) (Nat.le_refl g) _).setCell (p := ⟨g, 1, none⟩) (Nat.le_refl g) _
set_option maxRecDepth 100000 in
set_option maxHeartbeats 4000000 in
theorem rparse_any (s : ByteArray) (hs : s.size ≤ 281474976710656) (w : World) : Calls Tryd.prog 45 #[.string s] w (fun e w' => e = .returned (pbV (parseZ s.data.toList)) ∧ Below w.heap.size w w') := by
  have hd := Lib.hid (fun w => number_any s hs w)
  have hKl := iN_le s.data.toList
  rw [data_size] at hKl
  have hel := ext_lst s (iN s.data.toList)
  obtain ⟨K, hK⟩ : ∃ K, iN s.data.toList = K := ⟨_, rfl⟩
  rw [hK] at hel hKl
  obtain ⟨R, hR⟩ : ∃ R, s.extract K s.size = R := ⟨_, rfl⟩
  have hRs : R.size ≤ s.size := by rw [← hR, ByteArray.size_extract]; omega
  have hKI : (K : Int) ≤ (s.size : Int) := by omega
  rw [hR] at hel
  have hrs : rsD s.data.toList = R.data.toList := by unfold rsD; rw [hK]; exact hel.symm
  obtain ⟨P, hP⟩ : ∃ P, parseZ s.data.toList = P := ⟨_, rfl⟩
  rw [hP]
  unfold parseZ at hP
  rw [hrs] at hP
  clear hel hrs hKl
  go_enter Tryd.func45, Tryd.ntmps45
  go_wp2_with (fail)
  refine (hd.out _).mono ?_
  rintro e w1 ⟨hq, rfl⟩
  unfold NbQ at hq
  rw [hK] at hq
  clear hd hK
  obtain ⟨g, hg⟩ : ∃ g, w.heap.size = g := ⟨_, rfl⟩
  have ha := (Below.refl w.heap.size w).alloc (Nat.le_refl _) (.cells #[.int .i64 0, .int .i64 0] 25)
  have hx := Bk.fresh w 25 #[.int .i64 0, .int .i64 0]
  obtain ⟨X, hX⟩ : ∃ X, w.alloc (.cells #[.int .i64 0, .int .i64 0] 25) = X := ⟨_, rfl⟩
  have hXz : X.heap.size = g + 1 := by rw [← hX, World.size_alloc, hg]
  rw [hX, hg] at ha hx
  rw [hX, hg]
  replace hg := Lib.hid hg
  clear hX
  rcases hq with ⟨ho, n, hn1, hn2, hc, rfl⟩ | ⟨ho, rfl⟩
  · rw [if_pos ho] at hP
    obtain ⟨V, hV⟩ : ∃ V, vlD s.data.toList = V := ⟨_, rfl⟩
    rw [hV] at hP hc
    have hz := hc.zero
    replace hc := Lib.hid hc
    have hZ : Hid (Rz w (X.alloc (.cells #[.int .i64 n, .int .i64 0] 25)) g n 0) := ⟨hx.past _, by rw [← hXz]; exact Bk.fresh _ _ _, ha.alloc (by rw [hXz]; omega) _⟩
    clear ho hV hx ha
    replace hXz := Lib.hid hXz
    go_upto_region 5 with (fail)
    rw [hXz.out]
    obtain ⟨Y, hY⟩ : ∃ Y, X.alloc (.cells #[.int .i64 n, .int .i64 0] 25) = Y := ⟨_, rfl⟩
    rw [hY] at hZ
    rw [hY]
    clear hY hXz
    by_cases hr0 : R.data.toList = []
    · have g1 := emp_lit hr0
      obtain ⟨g2, g3⟩ := eq_lit hr0
      rw [if_pos hr0] at hP
      replace hP := Lib.hid hP.symm
      have hcl := pb_cl hc.out (Cl.refl 0)
      clear hr0 hz
      have hwi := Lib.hid (fun W => rwithin_any (n, 0) W)
      unfold zV at hwi
      simp only at hwi
      have d0 := hZ.out.1.cell 0
      have d1 := hZ.out.1.cell 1
      have e0 := hZ.out.1.free 0
      have e1 := hZ.out.1.free 1
      have c0 := hZ.out.2.1.cell 0
      have c1 := hZ.out.2.1.cell 1
      have f0 := hZ.out.2.1.free 0
      have f1 := hZ.out.2.1.free 1
      simp at c0 c1 d0 d1
      go_wp2_with (fail)
      refine (hwi.out _).mono ?_
      rintro e w9 ⟨rfl, hb⟩
      have hZ9 := hZ.out.bel hb
      replace hZ := Lib.hid hZ9
      clear hb hZ9 d0 d1 e0 e1 c0 c1 f0 f1
      have d0 := hZ.out.1.cell 0
      have d1 := hZ.out.1.cell 1
      have e0 := hZ.out.1.free 0
      have e1 := hZ.out.1.free 1
      have c0 := hZ.out.2.1.cell 0
      have c1 := hZ.out.2.1.cell 1
      have f0 := hZ.out.2.1.free 0
      have f1 := hZ.out.2.1.free 1
      simp at c0 c1 d0 d1
      by_cases hin : (n : Int).natAbs ≤ 16777216 ∧ (0 : Int).natAbs ≤ 16777216
      · rw [decide_eq_true hin]
        have hB9 := Lib.hid (hZ.out.fin n 0)
        replace hin := Lib.hid hin
        go_wp2_with (fail)
        refine bodyPost_ret (by simp [results, Tryd.results45, go_sem, *]; rfl) rfl ?_
        refine ⟨?_, by rw [hg.out]; exact hB9.out⟩
        rw [hP.out, ← hcl]
        unfold pbV
        simp only
        rw [if_pos hin.out]
        rfl
      · rw [decide_eq_false hin]
        have hB9 := Lib.hid (hZ.out.fin 0 0)
        replace hin := Lib.hid hin
        go_wp2_with (fail)
        refine bodyPost_ret (by simp [results, Tryd.results45, go_sem, *]; rfl) rfl ?_
        refine ⟨?_, by rw [hg.out]; exact hB9.out⟩
        rw [hP.out, ← hcl]
        unfold pbV
        simp only
        rw [if_neg hin.out]
        rfl
    · have g1 := nem_lit hr0
      obtain ⟨g2, g3⟩ := ne_lit hr0
      rw [if_neg hr0] at hP
      by_cases hn0 : n = 0
      · rw [if_pos (hz.1 hn0)] at hP
        replace hP := Lib.hid hP.symm
        subst hn0
        clear hr0 hz
        by_cases hr1 : R.data.toList = [105]
        · obtain ⟨g4, g5⟩ := eq_lit hr1
          clear hr1
          have hB9 := Lib.hid (hZ.out.fin 0 0)
          have d0 := hZ.out.1.cell 0
          have d1 := hZ.out.1.cell 1
          have e0 := hZ.out.1.free 0
          have e1 := hZ.out.1.free 1
          have c0 := hZ.out.2.1.cell 0
          have c1 := hZ.out.2.1.cell 1
          have f0 := hZ.out.2.1.free 0
          have f1 := hZ.out.2.1.free 1
          simp at c0 c1 d0 d1
          go_wp2_with (fail)
          refine bodyPost_ret (by simp [results, Tryd.results45, go_sem, *]; rfl) rfl ?_
          refine ⟨?_, by rw [hg.out]; exact hB9.out⟩
          rw [hP.out]
          rfl
        · obtain ⟨g4, g5⟩ := ne_lit hr1
          clear hr1
          have hB9 := Lib.hid (hZ.out.fin 0 0)
          have d0 := hZ.out.1.cell 0
          have d1 := hZ.out.1.cell 1
          have e0 := hZ.out.1.free 0
          have e1 := hZ.out.1.free 1
          have c0 := hZ.out.2.1.cell 0
          have c1 := hZ.out.2.1.cell 1
          have f0 := hZ.out.2.1.free 0
          have f1 := hZ.out.2.1.free 1
          simp at c0 c1 d0 d1
          go_wp2_with (fail)
          refine bodyPost_ret (by simp [results, Tryd.results45, go_sem, *]; rfl) rfl ?_
          refine ⟨?_, by rw [hg.out]; exact hB9.out⟩
          rw [hP.out]
          rfl
      · have hv0 : ¬ V = 0 := fun h => hn0 (hz.2 h)
        have n0 : (n == 0) = false := by simpa using hn0
        have n1 : (n != 0) = true := by simpa using hn0
        rw [if_neg hv0] at hP
        clear hn0 hz
        by_cases hr1 : R.data.toList = [105]
        · obtain ⟨g4, g5⟩ := eq_lit hr1
          rw [if_pos hr1] at hP
          replace hP := Lib.hid hP.symm
          have hcl := pb_cl (Cl.refl 0) hc.out
          clear hr1 hr0
          have d0 := hZ.out.1.cell 0
          have d1 := hZ.out.1.cell 1
          have e0 := hZ.out.1.free 0
          have e1 := hZ.out.1.free 1
          have c0 := hZ.out.2.1.cell 0
          have c1 := hZ.out.2.1.cell 1
          have f0 := hZ.out.2.1.free 0
          have f1 := hZ.out.2.1.free 1
          simp at c0 c1 d0 d1
          go_upto_region 21 with (fail)
          have hZ2 := hZ.out.put 0 n
          obtain ⟨Y2, hY2⟩ : ∃ Y2, (Y.setCell ⟨g + 1, 0, none⟩ (.int .i64 0)).setCell ⟨g + 1, 1, none⟩ (.int .i64 n) = Y2 := ⟨_, rfl⟩
          rw [hY2] at hZ2
          rw [hY2]
          replace hZ := Lib.hid hZ2
          clear hY2 hZ2 d0 d1 e0 e1 c0 c1 f0 f1
          have hwi := Lib.hid (fun W => rwithin_any (0, n) W)
          unfold zV at hwi
          simp only at hwi
          have d0 := hZ.out.1.cell 0
          have d1 := hZ.out.1.cell 1
          have e0 := hZ.out.1.free 0
          have e1 := hZ.out.1.free 1
          have c0 := hZ.out.2.1.cell 0
          have c1 := hZ.out.2.1.cell 1
          have f0 := hZ.out.2.1.free 0
          have f1 := hZ.out.2.1.free 1
          simp at c0 c1 d0 d1
          go_wp2_with (fail)
          refine (hwi.out _).mono ?_
          rintro e w9 ⟨rfl, hb⟩
          have hZ9 := hZ.out.bel hb
          replace hZ := Lib.hid hZ9
          clear hb hZ9 d0 d1 e0 e1 c0 c1 f0 f1
          have d0 := hZ.out.1.cell 0
          have d1 := hZ.out.1.cell 1
          have e0 := hZ.out.1.free 0
          have e1 := hZ.out.1.free 1
          have c0 := hZ.out.2.1.cell 0
          have c1 := hZ.out.2.1.cell 1
          have f0 := hZ.out.2.1.free 0
          have f1 := hZ.out.2.1.free 1
          simp at c0 c1 d0 d1
          by_cases hin : (0 : Int).natAbs ≤ 16777216 ∧ (n : Int).natAbs ≤ 16777216
          · rw [decide_eq_true hin]
            have hB9 := Lib.hid (hZ.out.fin 0 n)
            replace hin := Lib.hid hin
            go_wp2_with (fail)
            refine bodyPost_ret (by simp [results, Tryd.results45, go_sem, *]; rfl) rfl ?_
            refine ⟨?_, by rw [hg.out]; exact hB9.out⟩
            rw [hP.out, ← hcl]
            unfold pbV
            simp only
            rw [if_pos hin.out]
            rfl
          · rw [decide_eq_false hin]
            have hB9 := Lib.hid (hZ.out.fin 0 0)
            replace hin := Lib.hid hin
            go_wp2_with (fail)
            refine bodyPost_ret (by simp [results, Tryd.results45, go_sem, *]; rfl) rfl ?_
            refine ⟨?_, by rw [hg.out]; exact hB9.out⟩
            rw [hP.out, ← hcl]
            unfold pbV
            simp only
            rw [if_neg hin.out]
            rfl
        · obtain ⟨g4, g5⟩ := ne_lit hr1
          rw [if_neg hr1] at hP
          clear hr1
          have hRl : 0 < R.size := by
            rw [← data_size]
            exact List.length_pos_iff.2 hr0
          have hRI : (0 : Int) < (R.size : Int) := by omega
          rw [byteq R 0 hRl] at hP
          obtain ⟨c0_, hc0⟩ : ∃ c, R[0] = c := ⟨_, rfl⟩
          obtain ⟨z0, hz0⟩ : ∃ z, c0_.toNat = z := ⟨_, rfl⟩
          have hidx0 := idx_run0 R z0 hRl (by rw [hc0]; exact hz0)
          rw [hc0] at hP
          clear hr0 hc0
          by_cases h43 : z0 = 43
          · have hcc : c0_ = 43 := UInt8.toNat_inj.1 (by rw [hz0, h43]; rfl)
            rw [if_pos (by rw [hcc])] at hP
            subst h43
            clear hz0 hcc
            have hel := ext_lst R 1
            obtain ⟨T, hT⟩ : ∃ S, R.extract 1 R.size = S := ⟨_, rfl⟩
            have hTs : T.size ≤ s.size := by rw [← hT, ByteArray.size_extract]; omega
            rw [hT] at hel
            rw [← hel] at hP
            have hR1I : (1 : Int) ≤ (R.size : Int) := by omega
            clear hel hRl
            by_cases hT0 : T.data.toList = []
            · have t1 := emp_lit hT0
              obtain ⟨t2, t3⟩ := eq_lit hT0
              rw [if_neg (fun h => by
                have h1 := (okD_iff.1 h.1).1
                rw [hT0] at h1
                exact h1 rfl)] at hP
              replace hP := Lib.hid hP.symm
              clear hT0
              have hB9 := Lib.hid (hZ.out.fin 0 0)
              have d0 := hZ.out.1.cell 0
              have d1 := hZ.out.1.cell 1
              have e0 := hZ.out.1.free 0
              have e1 := hZ.out.1.free 1
              have c0 := hZ.out.2.1.cell 0
              have c1 := hZ.out.2.1.cell 1
              have f0 := hZ.out.2.1.free 0
              have f1 := hZ.out.2.1.free 1
              simp at c0 c1 d0 d1
              go_wp2_with (fail)
              refine bodyPost_ret (by simp [results, Tryd.results45, go_sem, *]; rfl) rfl ?_
              refine ⟨?_, by rw [hg.out]; exact hB9.out⟩
              rw [hP.out]
              rfl
            · have t1 := nem_lit hT0
              obtain ⟨t2, t3⟩ := ne_lit hT0
              have hTl : 0 < T.size := by
                rw [← data_size]
                exact List.length_pos_iff.2 hT0
              have hTI : (0 : Int) < (T.size : Int) := by omega
              have hby := byteq T 0 hTl
              obtain ⟨d0_, hd0⟩ : ∃ c, T[0] = c := ⟨_, rfl⟩
              obtain ⟨y0, hy0⟩ : ∃ z, d0_.toNat = z := ⟨_, rfl⟩
              have hidy0 := idx_run0 T y0 hTl (by rw [hd0]; exact hy0)
              rw [hd0] at hby
              clear hT0 hd0
              by_cases hm : y0 = 45
              · have hcc : d0_ = 45 := UInt8.toNat_inj.1 (by rw [hy0, hm]; rfl)
                have hsg1 : sgD T.data.toList = 1 := by unfold sgD; rw [hby, hcc, if_pos rfl]
                rw [if_neg (fun h => by rw [hsg1] at h; exact absurd h.2.2.2 (by decide))] at hP
                replace hP := Lib.hid hP.symm
                subst hm
                clear hcc hsg1 hby hy0 hTl
                have hB9 := Lib.hid (hZ.out.fin 0 0)
                have d0 := hZ.out.1.cell 0
                have d1 := hZ.out.1.cell 1
                have e0 := hZ.out.1.free 0
                have e1 := hZ.out.1.free 1
                have c0 := hZ.out.2.1.cell 0
                have c1 := hZ.out.2.1.cell 1
                have f0 := hZ.out.2.1.free 0
                have f1 := hZ.out.2.1.free 1
                simp at c0 c1 d0 d1
                go_wp2_with (fail)
                refine bodyPost_ret (by simp [results, Tryd.results45, go_sem, *]; rfl) rfl ?_
                refine ⟨?_, by rw [hg.out]; exact hB9.out⟩
                rw [hP.out]
                rfl
              · have hsg0 : sgD T.data.toList = 0 := by
                  unfold sgD
                  rw [hby, if_neg]
                  intro h
                  exact hm (by rw [← hy0, Option.some.inj h]; rfl)
                have ym : ((y0 : Int) == 45) = false := by simp; omega
                have ym2 : ((y0 : Int) != 45) = true := by simp; omega
                replace hsg0 := Lib.hid hsg0
                clear hby hy0 hm hTl
                have hd := Lib.hid (fun w => number_any T (by omega) w)
                have hKl2 := iN_le (T).data.toList
                rw [data_size] at hKl2
                have hel2 := ext_lst T (iN (T).data.toList)
                obtain ⟨K2, hK2⟩ : ∃ K, iN (T).data.toList = K := ⟨_, rfl⟩
                rw [hK2] at hel2 hKl2
                obtain ⟨R2, hR2⟩ : ∃ S, (T).extract K2 (T).size = S := ⟨_, rfl⟩
                have hK2I : (K2 : Int) ≤ ((T).size : Int) := by omega
                rw [hR2] at hel2
                have hrs : rsD (T).data.toList = R2.data.toList := by unfold rsD; rw [hK2]; exact hel2.symm
                rw [hrs] at hP
                clear hel2 hrs hKl2
                go_wp2_with (fail)
                refine (hd.out _).mono ?_
                rintro e w2_ ⟨hq, hw2⟩
                replace hw2 := hw2.symm
                subst hw2
                unfold NbQ at hq
                rw [hK2] at hq
                clear hd hK2
                rcases hq with ⟨ho2, m, hm1, hm2, hc2, rfl⟩ | ⟨ho2, rfl⟩
                · obtain ⟨V2, hV2⟩ : ∃ V, vlD (T).data.toList = V := ⟨_, rfl⟩
                  rw [hV2] at hP hc2
                  have hz2 := hc2.zero
                  replace hc2 := Lib.hid hc2
                  clear hV2
                  by_cases hm0 : m = 0
                  · rw [if_neg (fun h => by first | exact h.2.1 (hz2.1 hm0) | exact h.1.2.1 (hz2.1 hm0))] at hP
                    replace hP := Lib.hid hP.symm
                    subst hm0
                    clear hz2 ho2
                    have hB9 := Lib.hid (hZ.out.fin 0 0)
                    have d0 := hZ.out.1.cell 0
                    have d1 := hZ.out.1.cell 1
                    have e0 := hZ.out.1.free 0
                    have e1 := hZ.out.1.free 1
                    have c0 := hZ.out.2.1.cell 0
                    have c1 := hZ.out.2.1.cell 1
                    have f0 := hZ.out.2.1.free 0
                    have f1 := hZ.out.2.1.free 1
                    simp at c0 c1 d0 d1
                    go_wp2_with (fail)
                    refine bodyPost_ret (by simp [results, Tryd.results45, go_sem, *]; rfl) rfl ?_
                    refine ⟨?_, by rw [hg.out]; exact hB9.out⟩
                    rw [hP.out]
                    rfl
                  · have hv2 : ¬ V2 = 0 := fun h => hm0 (hz2.2 h)
                    have m0 : (m == 0) = false := by simpa using hm0
                    have m1 : (m != 0) = true := by simpa using hm0
                    by_cases hr2 : R2.data.toList = [105]
                    · obtain ⟨g6, g7⟩ := eq_lit hr2
                      rw [if_pos (by
                          first
                            | exact ⟨ho2, hv2, hr2⟩
                            | exact ⟨ho2, hv2, hr2, hsg0.out⟩)] at hP
                      replace hP := Lib.hid hP.symm
                      have hcl := pb_cl hc.out hc2.out
                      clear hz2 ho2 hr2 hv2 hm0
                      have d0 := hZ.out.1.cell 0
                      have d1 := hZ.out.1.cell 1
                      have e0 := hZ.out.1.free 0
                      have e1 := hZ.out.1.free 1
                      have c0 := hZ.out.2.1.cell 0
                      have c1 := hZ.out.2.1.cell 1
                      have f0 := hZ.out.2.1.free 0
                      have f1 := hZ.out.2.1.free 1
                      simp at c0 c1 d0 d1
                      go_upto_region 21 with (fail)
                      have hZ2 := hZ.out.put n m
                      obtain ⟨Y2, hY2⟩ : ∃ Y2, (Y.setCell ⟨g + 1, 0, none⟩ (.int .i64 n)).setCell ⟨g + 1, 1, none⟩ (.int .i64 m) = Y2 := ⟨_, rfl⟩
                      rw [hY2] at hZ2
                      rw [hY2]
                      replace hZ := Lib.hid hZ2
                      clear hY2 hZ2 d0 d1 e0 e1 c0 c1 f0 f1
                      have hwi := Lib.hid (fun W => rwithin_any (n, m) W)
                      unfold zV at hwi
                      simp only at hwi
                      have d0 := hZ.out.1.cell 0
                      have d1 := hZ.out.1.cell 1
                      have e0 := hZ.out.1.free 0
                      have e1 := hZ.out.1.free 1
                      have c0 := hZ.out.2.1.cell 0
                      have c1 := hZ.out.2.1.cell 1
                      have f0 := hZ.out.2.1.free 0
                      have f1 := hZ.out.2.1.free 1
                      simp at c0 c1 d0 d1
                      go_wp2_with (fail)
                      refine (hwi.out _).mono ?_
                      rintro e w9 ⟨rfl, hb⟩
                      have hZ9 := hZ.out.bel hb
                      replace hZ := Lib.hid hZ9
                      clear hb hZ9 d0 d1 e0 e1 c0 c1 f0 f1
                      have d0 := hZ.out.1.cell 0
                      have d1 := hZ.out.1.cell 1
                      have e0 := hZ.out.1.free 0
                      have e1 := hZ.out.1.free 1
                      have c0 := hZ.out.2.1.cell 0
                      have c1 := hZ.out.2.1.cell 1
                      have f0 := hZ.out.2.1.free 0
                      have f1 := hZ.out.2.1.free 1
                      simp at c0 c1 d0 d1
                      by_cases hin : (n : Int).natAbs ≤ 16777216 ∧ (m : Int).natAbs ≤ 16777216
                      · rw [decide_eq_true hin]
                        have hB9 := Lib.hid (hZ.out.fin n m)
                        replace hin := Lib.hid hin
                        go_wp2_with (fail)
                        refine bodyPost_ret (by simp [results, Tryd.results45, go_sem, *]; rfl) rfl ?_
                        refine ⟨?_, by rw [hg.out]; exact hB9.out⟩
                        rw [hP.out, ← hcl]
                        unfold pbV
                        simp only
                        rw [if_pos hin.out]
                        rfl
                      · rw [decide_eq_false hin]
                        have hB9 := Lib.hid (hZ.out.fin 0 0)
                        replace hin := Lib.hid hin
                        go_wp2_with (fail)
                        refine bodyPost_ret (by simp [results, Tryd.results45, go_sem, *]; rfl) rfl ?_
                        refine ⟨?_, by rw [hg.out]; exact hB9.out⟩
                        rw [hP.out, ← hcl]
                        unfold pbV
                        simp only
                        rw [if_neg hin.out]
                        rfl
                    · obtain ⟨g6, g7⟩ := ne_lit hr2
                      rw [if_neg (fun h => hr2 (by first | exact h.2.2 | exact h.2.2.1))] at hP
                      replace hP := Lib.hid hP.symm
                      clear hz2 ho2 hr2 hv2 hm0
                      have hB9 := Lib.hid (hZ.out.fin 0 0)
                      have d0 := hZ.out.1.cell 0
                      have d1 := hZ.out.1.cell 1
                      have e0 := hZ.out.1.free 0
                      have e1 := hZ.out.1.free 1
                      have c0 := hZ.out.2.1.cell 0
                      have c1 := hZ.out.2.1.cell 1
                      have f0 := hZ.out.2.1.free 0
                      have f1 := hZ.out.2.1.free 1
                      simp at c0 c1 d0 d1
                      go_wp2_with (fail)
                      refine bodyPost_ret (by simp [results, Tryd.results45, go_sem, *]; rfl) rfl ?_
                      refine ⟨?_, by rw [hg.out]; exact hB9.out⟩
                      rw [hP.out]
                      rfl
                · rw [if_neg (fun h => by rw [ho2] at h; cases h.1)] at hP
                  replace hP := Lib.hid hP.symm
                  clear ho2
                  have hB9 := Lib.hid (hZ.out.fin 0 0)
                  have d0 := hZ.out.1.cell 0
                  have d1 := hZ.out.1.cell 1
                  have e0 := hZ.out.1.free 0
                  have e1 := hZ.out.1.free 1
                  have c0 := hZ.out.2.1.cell 0
                  have c1 := hZ.out.2.1.cell 1
                  have f0 := hZ.out.2.1.free 0
                  have f1 := hZ.out.2.1.free 1
                  simp at c0 c1 d0 d1
                  go_wp2_with (fail)
                  refine bodyPost_ret (by simp [results, Tryd.results45, go_sem, *]; rfl) rfl ?_
                  refine ⟨?_, by rw [hg.out]; exact hB9.out⟩
                  rw [hP.out]
                  rfl
          · by_cases h45 : z0 = 45
            · have hcc : c0_ = 45 := UInt8.toNat_inj.1 (by rw [hz0, h45]; rfl)
              rw [if_neg (by rw [hcc]; decide), if_pos (by rw [hcc])] at hP
              subst h45
              clear hz0 hcc h43
              clear hRl
              have hd := Lib.hid (fun w => number_any R (by omega) w)
              have hKl2 := iN_le (R).data.toList
              rw [data_size] at hKl2
              have hel2 := ext_lst R (iN (R).data.toList)
              obtain ⟨K2, hK2⟩ : ∃ K, iN (R).data.toList = K := ⟨_, rfl⟩
              rw [hK2] at hel2 hKl2
              obtain ⟨R2, hR2⟩ : ∃ S, (R).extract K2 (R).size = S := ⟨_, rfl⟩
              have hK2I : (K2 : Int) ≤ ((R).size : Int) := by omega
              rw [hR2] at hel2
              have hrs : rsD (R).data.toList = R2.data.toList := by unfold rsD; rw [hK2]; exact hel2.symm
              rw [hrs] at hP
              clear hel2 hrs hKl2
              go_wp2_with (fail)
              refine (hd.out _).mono ?_
              rintro e w2_ ⟨hq, hw2⟩
              replace hw2 := hw2.symm
              subst hw2
              unfold NbQ at hq
              rw [hK2] at hq
              clear hd hK2
              rcases hq with ⟨ho2, m, hm1, hm2, hc2, rfl⟩ | ⟨ho2, rfl⟩
              · obtain ⟨V2, hV2⟩ : ∃ V, vlD (R).data.toList = V := ⟨_, rfl⟩
                rw [hV2] at hP hc2
                have hz2 := hc2.zero
                replace hc2 := Lib.hid hc2
                clear hV2
                by_cases hm0 : m = 0
                · rw [if_neg (fun h => by first | exact h.2.1 (hz2.1 hm0) | exact h.1.2.1 (hz2.1 hm0))] at hP
                  replace hP := Lib.hid hP.symm
                  subst hm0
                  clear hz2 ho2
                  have hB9 := Lib.hid (hZ.out.fin 0 0)
                  have d0 := hZ.out.1.cell 0
                  have d1 := hZ.out.1.cell 1
                  have e0 := hZ.out.1.free 0
                  have e1 := hZ.out.1.free 1
                  have c0 := hZ.out.2.1.cell 0
                  have c1 := hZ.out.2.1.cell 1
                  have f0 := hZ.out.2.1.free 0
                  have f1 := hZ.out.2.1.free 1
                  simp at c0 c1 d0 d1
                  go_wp2_with (fail)
                  refine bodyPost_ret (by simp [results, Tryd.results45, go_sem, *]; rfl) rfl ?_
                  refine ⟨?_, by rw [hg.out]; exact hB9.out⟩
                  rw [hP.out]
                  rfl
                · have hv2 : ¬ V2 = 0 := fun h => hm0 (hz2.2 h)
                  have m0 : (m == 0) = false := by simpa using hm0
                  have m1 : (m != 0) = true := by simpa using hm0
                  by_cases hr2 : R2.data.toList = [105]
                  · obtain ⟨g6, g7⟩ := eq_lit hr2
                    rw [if_pos (by
                        first
                          | exact ⟨ho2, hv2, hr2⟩
                          | exact ⟨ho2, hv2, hr2, hsg0.out⟩)] at hP
                    replace hP := Lib.hid hP.symm
                    have hcl := pb_cl hc.out hc2.out
                    clear hz2 ho2 hr2 hv2 hm0
                    have d0 := hZ.out.1.cell 0
                    have d1 := hZ.out.1.cell 1
                    have e0 := hZ.out.1.free 0
                    have e1 := hZ.out.1.free 1
                    have c0 := hZ.out.2.1.cell 0
                    have c1 := hZ.out.2.1.cell 1
                    have f0 := hZ.out.2.1.free 0
                    have f1 := hZ.out.2.1.free 1
                    simp at c0 c1 d0 d1
                    go_upto_region 21 with (fail)
                    have hZ2 := hZ.out.put n m
                    obtain ⟨Y2, hY2⟩ : ∃ Y2, (Y.setCell ⟨g + 1, 0, none⟩ (.int .i64 n)).setCell ⟨g + 1, 1, none⟩ (.int .i64 m) = Y2 := ⟨_, rfl⟩
                    rw [hY2] at hZ2
                    rw [hY2]
                    replace hZ := Lib.hid hZ2
                    clear hY2 hZ2 d0 d1 e0 e1 c0 c1 f0 f1
                    have hwi := Lib.hid (fun W => rwithin_any (n, m) W)
                    unfold zV at hwi
                    simp only at hwi
                    have d0 := hZ.out.1.cell 0
                    have d1 := hZ.out.1.cell 1
                    have e0 := hZ.out.1.free 0
                    have e1 := hZ.out.1.free 1
                    have c0 := hZ.out.2.1.cell 0
                    have c1 := hZ.out.2.1.cell 1
                    have f0 := hZ.out.2.1.free 0
                    have f1 := hZ.out.2.1.free 1
                    simp at c0 c1 d0 d1
                    go_wp2_with (fail)
                    refine (hwi.out _).mono ?_
                    rintro e w9 ⟨rfl, hb⟩
                    have hZ9 := hZ.out.bel hb
                    replace hZ := Lib.hid hZ9
                    clear hb hZ9 d0 d1 e0 e1 c0 c1 f0 f1
                    have d0 := hZ.out.1.cell 0
                    have d1 := hZ.out.1.cell 1
                    have e0 := hZ.out.1.free 0
                    have e1 := hZ.out.1.free 1
                    have c0 := hZ.out.2.1.cell 0
                    have c1 := hZ.out.2.1.cell 1
                    have f0 := hZ.out.2.1.free 0
                    have f1 := hZ.out.2.1.free 1
                    simp at c0 c1 d0 d1
                    by_cases hin : (n : Int).natAbs ≤ 16777216 ∧ (m : Int).natAbs ≤ 16777216
                    · rw [decide_eq_true hin]
                      have hB9 := Lib.hid (hZ.out.fin n m)
                      replace hin := Lib.hid hin
                      go_wp2_with (fail)
                      refine bodyPost_ret (by simp [results, Tryd.results45, go_sem, *]; rfl) rfl ?_
                      refine ⟨?_, by rw [hg.out]; exact hB9.out⟩
                      rw [hP.out, ← hcl]
                      unfold pbV
                      simp only
                      rw [if_pos hin.out]
                      rfl
                    · rw [decide_eq_false hin]
                      have hB9 := Lib.hid (hZ.out.fin 0 0)
                      replace hin := Lib.hid hin
                      go_wp2_with (fail)
                      refine bodyPost_ret (by simp [results, Tryd.results45, go_sem, *]; rfl) rfl ?_
                      refine ⟨?_, by rw [hg.out]; exact hB9.out⟩
                      rw [hP.out, ← hcl]
                      unfold pbV
                      simp only
                      rw [if_neg hin.out]
                      rfl
                  · obtain ⟨g6, g7⟩ := ne_lit hr2
                    rw [if_neg (fun h => hr2 (by first | exact h.2.2 | exact h.2.2.1))] at hP
                    replace hP := Lib.hid hP.symm
                    clear hz2 ho2 hr2 hv2 hm0
                    have hB9 := Lib.hid (hZ.out.fin 0 0)
                    have d0 := hZ.out.1.cell 0
                    have d1 := hZ.out.1.cell 1
                    have e0 := hZ.out.1.free 0
                    have e1 := hZ.out.1.free 1
                    have c0 := hZ.out.2.1.cell 0
                    have c1 := hZ.out.2.1.cell 1
                    have f0 := hZ.out.2.1.free 0
                    have f1 := hZ.out.2.1.free 1
                    simp at c0 c1 d0 d1
                    go_wp2_with (fail)
                    refine bodyPost_ret (by simp [results, Tryd.results45, go_sem, *]; rfl) rfl ?_
                    refine ⟨?_, by rw [hg.out]; exact hB9.out⟩
                    rw [hP.out]
                    rfl
              · rw [if_neg (fun h => by rw [ho2] at h; cases h.1)] at hP
                replace hP := Lib.hid hP.symm
                clear ho2
                have hB9 := Lib.hid (hZ.out.fin 0 0)
                have d0 := hZ.out.1.cell 0
                have d1 := hZ.out.1.cell 1
                have e0 := hZ.out.1.free 0
                have e1 := hZ.out.1.free 1
                have c0 := hZ.out.2.1.cell 0
                have c1 := hZ.out.2.1.cell 1
                have f0 := hZ.out.2.1.free 0
                have f1 := hZ.out.2.1.free 1
                simp at c0 c1 d0 d1
                go_wp2_with (fail)
                refine bodyPost_ret (by simp [results, Tryd.results45, go_sem, *]; rfl) rfl ?_
                refine ⟨?_, by rw [hg.out]; exact hB9.out⟩
                rw [hP.out]
                rfl
            · rw [if_neg (fun h => h43 (by rw [← hz0, Option.some.inj h]; rfl)), if_neg (fun h => h45 (by rw [← hz0, Option.some.inj h]; rfl))] at hP
              replace hP := Lib.hid hP.symm
              have b1 : ((z0 : Int) == 43) = false := by simp; omega
              have b2 : ((z0 : Int) == 45) = false := by simp; omega
              have b3 : ((z0 : Int) != 43) = true := by simp; omega
              have b4 : ((z0 : Int) != 45) = true := by simp; omega
              clear hz0 h43 h45
              have hB9 := Lib.hid (hZ.out.fin 0 0)
              have d0 := hZ.out.1.cell 0
              have d1 := hZ.out.1.cell 1
              have e0 := hZ.out.1.free 0
              have e1 := hZ.out.1.free 1
              have c0 := hZ.out.2.1.cell 0
              have c1 := hZ.out.2.1.cell 1
              have f0 := hZ.out.2.1.free 0
              have f1 := hZ.out.2.1.free 1
              simp at c0 c1 d0 d1
              go_wp2_with (fail)
              refine bodyPost_ret (by simp [results, Tryd.results45, go_sem, *]; rfl) rfl ?_
              refine ⟨?_, by rw [hg.out]; exact hB9.out⟩
              rw [hP.out]
              rfl
  · rw [if_neg (by rw [ho]; simp)] at hP
    replace hP := Lib.hid hP.symm
    have hB9 := Lib.hid ((ha.setCell (p := ⟨g, 0, none⟩) (Nat.le_refl g) (.int .i64 0)).setCell (p := ⟨g, 1, none⟩) (Nat.le_refl g) (.int .i64 0))
    have d0 := hx.cell 0
    have d1 := hx.cell 1
    have e0 := hx.free 0
    have e1 := hx.free 1
    simp at d0 d1
    clear hR ho ha hx hXz
    go_wp2_with (fail)
    refine bodyPost_ret (by simp [results, Tryd.results45, go_sem, *]; rfl) rfl ?_
    refine ⟨?_, by rw [hg.out]; exact hB9.out⟩
    rw [hP.out]
    rfl
end Go.Proofs.YtmmfjonoenmplaaDoor
