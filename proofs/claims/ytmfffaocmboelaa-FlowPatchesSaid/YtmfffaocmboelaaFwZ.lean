import Derived.Test.YtmfffaocmboelaaFwY
namespace Go.Proofs.Ytmfffaocmboelaa
open Go.RowKit
set_option linter.unusedVariables false
set_option linter.unusedSimpArgs false
/-! FlowPatches -/
set_option maxHeartbeats 8000000 in
set_option maxRecDepth 100000 in
theorem walk_patches (A : Option Addr) (n c : Nat) (A2 : Option Addr) (n2 c2 : Nat) (w : World) (hS : Strs w A n) (hI : Ints w A2 n2) (hn2 : n2 ≤ 140737488351232) :
    Calls Try.prog 5 #[.slice A n c, .slice A2 n2 c2] w fun e w' => e = .returned (.bool true) ∧ Below w.heap.size w w' := by
  have hn := hS.1
  have q1 : (n : Int) ≤ 140737488351232 := by omega
  have q2 : (n2 : Int) ≤ 140737488351232 := by omega
  replace hS := Lib.hid hS
  replace hI := Lib.hid hI
  go_enter Try.func5, Try.ntmps5
  go_wp2_with (fail)
  refine (shown_any w).mono ?_
  rintro e w0 ⟨rfl, hb0⟩
  replace hb0 := Lib.hid hb0
  go_wp2_with (fail)
  refine (new_any w0).mono ?_
  rintro e w2 ⟨rfl, hw2⟩
  have hT := ps_new w0
  rw [← hw2] at hT
  have hB : Below w0.heap.size w0 w2 := by rw [hw2]; exact (Below.refl _ _).alloc (Nat.le_refl _) _
  obtain ⟨F, hF⟩ : ∃ F, w0.heap.size = F := ⟨_, rfl⟩
  rw [hF] at hT hB ⊢
  clear hw2
  have hBw : Below w.heap.size w w2 := hb0.out.trans (hB.mono (by rw [← hF]; exact hb0.out.size))
  have hzF : w.heap.size ≤ F := by rw [← hF]; exact hb0.out.size
  clear hb0 hB
  replace hT := Lib.hid hT
  replace hF := Lib.hid hF
  replace hBw := Lib.hid hBw
  replace hzF := Lib.hid hzF
  go_wp2_with (fail)
  go_loopw [7, 8, 9, 10] (fun x7 x8 x9 x10 wr => ∃ (j : Nat) (hh m : Int) (v : Value) (X : List (Th × Value)) (L : List Th) (vW : Value) (Wl : List Int) (vD : Value) (Dl : List Int), x7 = .int .i64 hh ∧ vW = x8 ∧ vD = x9 ∧ x10 = .int .i64 j ∧ j ≤ n ∧ j ≤ 200 ∧ 8 ≤ hh ∧ hh ≤ 8 + 3000 * j ∧ hh ≤ m ∧ m ≤ 8 + 4000 * j ∧ Ps wr F v X L j F vW Wl vD Dl ∧ Pos L m ∧ Iv Wl Dl L hh ∧ Wl.length ≤ 204 * j ∧ Dl.length ≤ 204 * j ∧ Below w.heap.size w wr) (fun _ _ _ x10 _ => n - (intOf x10).toNat)
  case atStart => exact ⟨0, 8, 8, _, _, [], _, [], _, [], rfl, rfl, rfl, rfl, by omega, by omega, by omega, by omega, by omega, by omega, hT.out, Pos.nil _, ⟨fun y => rfl, List.nodup_nil, fun y hy => (by cases hy), Und.nil⟩, by simp, by simp, hBw.out⟩
  case round =>
    obtain ⟨j, hh, m, v, X, L, vW, Wl, vD, Dl, rfl, rfl, rfl, rfl, hjn, hj2, hh0, hh1, hm0, hm1, hT, hP, hV, hlW, hlD, hBr⟩ := hrel
    have j0 : (0 : Int) ≤ j := by omega
    by_cases hj : j < n ∧ j < 200
    · have j1 : (j : Int) < n := by omega
      have j2 : (j : Int) < 200 := by omega
      obtain ⟨sb, so, s, rfl, hsb, hsc, hss⟩ := hS.out.2 j hj.1
      have hsc' : wr.cell? ⟨sb, so + j, none⟩ = some (.string s) := (hBr.cell (p := ⟨sb, so + j, none⟩) hsb).trans hsc
      have hs : s.size ≤ maxLen := Nat.le_trans hss (by decide)
      by_cases hg : j < n2
      · have j3 : (j : Int) < n2 := by omega
        obtain ⟨gb, go, gv, rfl, hgb, hgc, hgr⟩ := hI.out.2 j hg
        have hgc' : wr.cell? ⟨gb, go + j, none⟩ = some (.int .i64 gv) := (hBr.cell (p := ⟨gb, go + j, none⟩) hgb).trans hgc
        have hpk := pick_any gv 5 wr hgr.1 hgr.2 (by decide) (by decide)
        have hpl := pickN_lt gv 5 (by decide)
        simp only [show ((5 : Int).toNat) = 5 from rfl] at hpk
        obtain ⟨q, hq⟩ : ∃ p, pickN gv 5 = p := ⟨_, rfl⟩
        rw [hq] at hpk hpl
        have w1 : IntKind.i64.wrap (8 * (q : Int)) = 8 * q := by rw [IntKind.wrap_i64]; omega
        have w2 : IntKind.i64.wrap (hh + 8 * (q : Int)) = hh + 8 * q := by rw [IntKind.wrap_i64]; omega
        have w3 : 8 * (q : Int) ≤ 32 := by omega
        have w4 : 0 ≤ 8 * (q : Int) := by omega
        replace hpk := Lib.hid hpk
        replace hT := Lib.hid hT
        replace hP := Lib.hid hP
        replace hV := Lib.hid hV
        replace hBr := Lib.hid hBr
        replace hq := Lib.hid hq
        replace hpl := Lib.hid hpl
        go_wp2_with (go_at_call 12; refine hpk.out.mono ?_; rintro e w3 ⟨rfl, hw3⟩; replace hw3 := hw3.symm; subst hw3)
        obtain ⟨h2, hh2⟩ : ∃ h2, hh + 8 * (q : Int) = h2 := ⟨_, rfl⟩
        rw [hh2]
        have k0 : hh ≤ h2 := by omega
        have k1 : h2 ≤ hh + 32 := by omega
        clear w1 w2 w3 w4 hh2 hgc' hgc hgr
        obtain ⟨⟨sf, sa, sL⟩, hst⟩ : ∃ st, Go.Proofs.Ytmfffaocmboelaa.step L (row s) h2 = st := ⟨_, rfl⟩
        have hps := step_pos L (row s) h2 (by omega) (by omega) (m + 32) (by omega) (hP.out.mono (by omega))
        have hlen := step_len L (row s) h2 j hT.out.f.ord
        have hkp := keep_step L (row s) h2 m (by omega) (by omega) hP.out hV.out.und hT.out.f.ord.low
        rw [hst] at hps hlen hkp
        obtain ⟨hkp, hf0⟩ := hkp
        replace hps := Lib.hid hps
        replace hkp := Lib.hid hkp
        replace hf0 := Lib.hid hf0
        refine (ps_word hT.out s h2 hs (by omega) _ hst).mono ?_
        rintro e w5 ⟨va, v4, X4, rfl, hA, hT5, hB5⟩
        try simp only
        try simp only at hA hT5 hps hkp hf0 hlen
        replace hBr := Lib.hid (hBr.out.trans (hB5.mono hzF.out))
        obtain ⟨Aa, ca, hva⟩ := own_form hA
        obtain ⟨la, hla⟩ : ∃ la, sa.length = la := ⟨_, rfl⟩
        rw [hla] at hlen hva hA
        subst hva
        have z4 : (la : Int) ≤ 204 := by omega
        have hcnt := hT.out.f.th
        replace hA := Lib.hid hA
        replace hT5 := Lib.hid hT5
        replace hlen := Lib.hid hlen
        replace hla := Lib.hid hla
        replace hst := Lib.hid hst
        have hVn := Lib.hid hV.out
        clear hB5 hT hsc' hcnt hV
        by_cases hsf : sf = 0
        · have z1 : (sf != 0) = false := by simp [hsf]
          have hsf := Lib.hid hsf
          obtain ⟨A8, c8, hv8⟩ := own_form hT5.out.rW
          obtain ⟨A9, c9, hv9⟩ := own_form hT5.out.rD
          go_wp2_with (fail)
          go_loopw [7, 8, 9, 13] (fun x7 x8 x9 x13 wi => ∃ (k : Nat) (h3 : Int) (vW : Value) (Wk : List Int) (vD : Value) (Dk : List Int), x7 = .int .i64 h3 ∧ vW = x8 ∧ vD = x9 ∧ x13 = .int .i64 k ∧ k ≤ la ∧ Hid (h3 = h2 + 8 * layN (sa.take k)) ∧ Hid (Wk = Wl ++ waitL (sa.take k)) ∧ Hid (Dk = Dl ++ doneL (sa.take k)) ∧ Ps wi F v4 X4 sL (j + 1) F vW Wk vD Dk ∧ AOk h3 la (sa.drop k) ∧ wi.ownsRow wr.heap.size 36 4 (.slice Aa la ca) la (actC sa) ∧ Below w.heap.size w wi) (fun _ _ _ x13 _ => la - (intOf x13).toNat)
          case atStart => exact ⟨0, h2, vW, Wl, vD, Dl, rfl, rfl, rfl, rfl, by omega, Lib.hid (by simp [layN]), Lib.hid (by simp [waitL]), Lib.hid (by simp [doneL]), hT5.out, by have := hkp.out.ok; rw [hla.out] at this; exact this, hA.out, hBr.out⟩
          case round =>
            obtain ⟨k, h3, vWk, Wk, vDk, Dk, rfl, rfl, rfl, rfl, hk, hh3, hWk, hDk, hTi, hOk, hAi, hBi⟩ := hrel
            have g0 : (0 : Int) ≤ k := by omega
            by_cases hkl : k < la
            · have g1 : (k : Int) < la := by omega
              obtain ⟨ga, ap, aa, ao, at_, rfl, hgl, hga, r0, r1, r2, r3⟩ := row_at hAi hla.out k hkl
              rw [drop_at sa k _ hga] at hOk
              unfold AOk at hOk
              have hBk := Bk.fresh wr 36 #[.bool ap, .int .i64 aa, .int .i64 ao, .int .i64 at_]
              have hWt := waitL_take sa k _ hga
              have hDt := doneL_take sa k _ hga
              have hNt := layN_take sa k _ hga
              have hTl := hTi.rW
              replace hWt := Lib.hid hWt
              replace hDt := Lib.hid hDt
              replace hNt := Lib.hid hNt
              have hWl : Wk.length ≤ 100000 := by
                rw [hWk.out, List.length_append]
                have := waitL_len (sa.take k)
                have := List.length_take_le k sa
                have := hlen.out
                omega
              have hDl : Dk.length ≤ 100000 := by
                rw [hDk.out, List.length_append]
                have := doneL_len (sa.take k)
                have := List.length_take_le k sa
                have := hlen.out
                omega
              have hbnd : 0 ≤ h3 ∧ h3 ≤ 1000000000 := by
                have := hh3.out
                have := layN_len (sa.take k)
                have := List.length_take_le k sa
                omega
              have hTa := hTi.kept (Below.refl wr.heap.size wr |>.alloc (Nat.le_refl _) (.cells #[.bool ap, .int .i64 aa, .int .i64 ao, .int .i64 at_] 36))
              have hBa : Below w.heap.size w (wr.alloc (.cells #[.bool ap, .int .i64 aa, .int .i64 ao, .int .i64 at_] 36)) := hBi.alloc hBi.size _
              have hAa := hAi.alloc (.cells #[.bool ap, .int .i64 aa, .int .i64 ao, .int .i64 at_] 36)
              clear hBk hTl hTi hAi hBi
              replace hWl := Lib.hid hWl
              replace hDl := Lib.hid hDl
              cases ap
              · rw [if_neg (by simp)] at hOk
                simp only at hOk
                obtain ⟨o1, hOk⟩ := hOk
                have f3 : IntKind.i64.wrap (h3 + 8) = h3 + 8 := by rw [IntKind.wrap_i64]; omega
                have z2 : (aa != h3) = false := by simp [o1]
                have hNn : h3 + 8 = h2 + 8 * (layN (sa.take (k + 1)) : Int) := by
                  rw [hNt.out, if_neg (by simp), hh3.out]; push_cast; omega
                have hDn : Dk = Dl ++ doneL (sa.take (k + 1)) := by
                  rw [hDt.out, hDk.out]; simp [doneA]
                replace hOk := Lib.hid hOk
                replace hNn := Lib.hid hNn
                replace hDn := Lib.hid hDn
                replace o1 := Lib.hid o1
                replace hAa := Lib.hid hAa
                replace hBa := Lib.hid hBa
                replace hbnd := Lib.hid hbnd
                by_cases p5 : ao = 5
                · have b5 : (ao == 5) = true := by simpa using p5
                  by_cases p0 : at_ = 0
                  · have b0 : (at_ == 0) = true := by simpa using p0
                    have hWn : Wk ++ [aa] = Wl ++ waitL (sa.take (k + 1)) := by rw [hWt.out, hWk.out]; simp [waitA, p5, p0]
                    obtain ⟨A', c', w9, hrun, hT9, hB9, hrow9⟩ := hTa.add aa hWl.out
                    simp only [World.size_alloc] at hrun
                    have hA9 := hrow9 _ _ _ _ hAa.out
                    have hB9' := hBa.out.trans (hB9.mono hzF.out)
                    replace hrun := Lib.hid hrun
                    replace hT9 := Lib.hid hT9
                    replace hA9 := Lib.hid hA9
                    replace hB9' := Lib.hid hB9'
                    replace hWn := Lib.hid hWn
                    replace p0 := Lib.hid p0
                    try replace p5 := Lib.hid p5
                    try replace p4 := Lib.hid p4
                    try replace p7 := Lib.hid p7
                    clear hTa hAa hBa hB9 hrow9
                    go_wp2_with (at_builtin; refine wpList_append_run rfl (.tmp 122) (.tmp 125) 32 rfl vWk _ _ rfl rfl hrun.out ?_)
                    exact ⟨⟨_, _, _, _, _, ⟨k + 1, h3 + 8, rfl, rfl, by omega, hNn, _, hWn, _, hDn, hT9.out, hOk.out, hA9.out, hB9'.out⟩, rfl, rfl, rfl, rfl, rfl⟩, by simp [intOf]; omega⟩
                  · have b0 : (at_ == 0) = false := by simpa using p0
                    have hWn : Wk = Wl ++ waitL (sa.take (k + 1)) := by rw [hWt.out, hWk.out]; simp [waitA, p0]
                    try replace p0 := Lib.hid p0
                    replace hWn := Lib.hid hWn
                    try replace p5 := Lib.hid p5
                    try replace p4 := Lib.hid p4
                    try replace p7 := Lib.hid p7
                    replace hTa := Lib.hid hTa
                    go_wp2_with (fail)
                    refine ⟨⟨k + 1, h3 + 8, vWk, Wk, vDk, Dk, rfl, rfl, rfl, rfl, by omega, hNn, hWn, hDn, hTa.out, hOk.out, hAa.out, hBa.out⟩, by simp [intOf]; omega⟩
                · have b5 : (ao == 5) = false := by simpa using p5
                  by_cases p4 : ao = 4
                  · have b4 : (ao == 4) = true := by simpa using p4
                    by_cases p0 : at_ = 0
                    · have b0 : (at_ == 0) = true := by simpa using p0
                      have hWn : Wk ++ [aa] = Wl ++ waitL (sa.take (k + 1)) := by rw [hWt.out, hWk.out]; simp [waitA, p4, p0]
                      obtain ⟨A', c', w9, hrun, hT9, hB9, hrow9⟩ := hTa.add aa hWl.out
                      simp only [World.size_alloc] at hrun
                      have hA9 := hrow9 _ _ _ _ hAa.out
                      have hB9' := hBa.out.trans (hB9.mono hzF.out)
                      replace hrun := Lib.hid hrun
                      replace hT9 := Lib.hid hT9
                      replace hA9 := Lib.hid hA9
                      replace hB9' := Lib.hid hB9'
                      replace hWn := Lib.hid hWn
                      replace p0 := Lib.hid p0
                      try replace p5 := Lib.hid p5
                      try replace p4 := Lib.hid p4
                      try replace p7 := Lib.hid p7
                      clear hTa hAa hBa hB9 hrow9
                      go_wp2_with (at_builtin; refine wpList_append_run rfl (.tmp 122) (.tmp 125) 32 rfl vWk _ _ rfl rfl hrun.out ?_)
                      exact ⟨⟨_, _, _, _, _, ⟨k + 1, h3 + 8, rfl, rfl, by omega, hNn, _, hWn, _, hDn, hT9.out, hOk.out, hA9.out, hB9'.out⟩, rfl, rfl, rfl, rfl, rfl⟩, by simp [intOf]; omega⟩
                    · have b0 : (at_ == 0) = false := by simpa using p0
                      have hWn : Wk = Wl ++ waitL (sa.take (k + 1)) := by rw [hWt.out, hWk.out]; simp [waitA, p0]
                      try replace p0 := Lib.hid p0
                      replace hWn := Lib.hid hWn
                      try replace p5 := Lib.hid p5
                      try replace p4 := Lib.hid p4
                      try replace p7 := Lib.hid p7
                      replace hTa := Lib.hid hTa
                      go_wp2_with (fail)
                      refine ⟨⟨k + 1, h3 + 8, vWk, Wk, vDk, Dk, rfl, rfl, rfl, rfl, by omega, hNn, hWn, hDn, hTa.out, hOk.out, hAa.out, hBa.out⟩, by simp [intOf]; omega⟩
                  · have b4 : (ao == 4) = false := by simpa using p4
                    by_cases p7 : ao = 7
                    · have b7 : (ao == 7) = true := by simpa using p7
                      by_cases p0 : at_ = 0
                      · have b0 : (at_ == 0) = true := by simpa using p0
                        have hWn : Wk ++ [aa] = Wl ++ waitL (sa.take (k + 1)) := by rw [hWt.out, hWk.out]; simp [waitA, p7, p0]
                        obtain ⟨A', c', w9, hrun, hT9, hB9, hrow9⟩ := hTa.add aa hWl.out
                        simp only [World.size_alloc] at hrun
                        have hA9 := hrow9 _ _ _ _ hAa.out
                        have hB9' := hBa.out.trans (hB9.mono hzF.out)
                        replace hrun := Lib.hid hrun
                        replace hT9 := Lib.hid hT9
                        replace hA9 := Lib.hid hA9
                        replace hB9' := Lib.hid hB9'
                        replace hWn := Lib.hid hWn
                        replace p0 := Lib.hid p0
                        try replace p5 := Lib.hid p5
                        try replace p4 := Lib.hid p4
                        try replace p7 := Lib.hid p7
                        clear hTa hAa hBa hB9 hrow9
                        go_wp2_with (at_builtin; refine wpList_append_run rfl (.tmp 122) (.tmp 125) 32 rfl vWk _ _ rfl rfl hrun.out ?_)
                        exact ⟨⟨_, _, _, _, _, ⟨k + 1, h3 + 8, rfl, rfl, by omega, hNn, _, hWn, _, hDn, hT9.out, hOk.out, hA9.out, hB9'.out⟩, rfl, rfl, rfl, rfl, rfl⟩, by simp [intOf]; omega⟩
                      · have b0 : (at_ == 0) = false := by simpa using p0
                        have hWn : Wk = Wl ++ waitL (sa.take (k + 1)) := by rw [hWt.out, hWk.out]; simp [waitA, p0]
                        try replace p0 := Lib.hid p0
                        replace hWn := Lib.hid hWn
                        try replace p5 := Lib.hid p5
                        try replace p4 := Lib.hid p4
                        try replace p7 := Lib.hid p7
                        replace hTa := Lib.hid hTa
                        go_wp2_with (fail)
                        refine ⟨⟨k + 1, h3 + 8, vWk, Wk, vDk, Dk, rfl, rfl, rfl, rfl, by omega, hNn, hWn, hDn, hTa.out, hOk.out, hAa.out, hBa.out⟩, by simp [intOf]; omega⟩
                    · have b7 : (ao == 7) = false := by simpa using p7
                      have hWn : Wk = Wl ++ waitL (sa.take (k + 1)) := by rw [hWt.out, hWk.out]; simp [waitA, p5, p4, p7]
                      try replace p0 := Lib.hid p0
                      replace hWn := Lib.hid hWn
                      try replace p5 := Lib.hid p5
                      try replace p4 := Lib.hid p4
                      try replace p7 := Lib.hid p7
                      replace hTa := Lib.hid hTa
                      go_wp2_with (fail)
                      refine ⟨⟨k + 1, h3 + 8, vWk, Wk, vDk, Dk, rfl, rfl, rfl, rfl, by omega, hNn, hWn, hDn, hTa.out, hOk.out, hAa.out, hBa.out⟩, by simp [intOf]; omega⟩
              · rw [if_pos rfl] at hOk
                simp only at hOk
                obtain ⟨o0, o1, o2, hOk⟩ := hOk
                subst o0
                have f1 : IntKind.i64.wrap (8 * (la : Int)) = 8 * la := by rw [IntKind.wrap_i64]; omega
                have f3 : IntKind.i64.wrap (h3 + 8 * (la : Int)) = h3 + 8 * la := by rw [IntKind.wrap_i64]; omega
                have hNn : h3 = h2 + 8 * (layN (sa.take (k + 1)) : Int) := by
                  rw [hNt.out, if_pos rfl, hh3.out]; rfl
                have hWn : Wk = Wl ++ waitL (sa.take (k + 1)) := by
                  rw [hWt.out, hWk.out]; simp [waitA]
                have hDn : Dk ++ [aa] = Dl ++ doneL (sa.take (k + 1)) := by
                  rw [hDt.out, hDk.out]; simp [doneA]
                obtain ⟨A', c', w9, hrun, hT9, hB9, hrow9⟩ := hTa.swap.add aa hDl.out
                simp only [World.size_alloc] at hrun
                have hA9 := hrow9 _ _ _ _ hAa
                have hB9' := hBa.trans (hB9.mono hzF.out)
                replace hrun := Lib.hid hrun
                replace hT9 := Lib.hid hT9
                replace hA9 := Lib.hid hA9
                replace hB9' := Lib.hid hB9'
                replace hOk := Lib.hid hOk
                replace hNn := Lib.hid hNn
                replace hDn := Lib.hid hDn
                replace hWn := Lib.hid hWn
                replace hbnd := Lib.hid hbnd
                clear hTa hAa hBa hB9 hrow9
                go_wp2_with (at_builtin; refine wpList_append_run rfl (.tmp 93) (.tmp 96) 32 rfl vDk _ _ rfl rfl hrun.out ?_)
                exact ⟨⟨_, _, _, _, _, ⟨k + 1, h3, rfl, rfl, by omega, hNn, _, hWn, _, hDn, hT9.out.swap, hOk.out, hA9.out, hB9'.out⟩, rfl, rfl, rfl, rfl, rfl⟩, by simp [intOf]; omega⟩
            · have e : k = la := by omega
              have g1 : ¬ (k : Int) < la := by omega
              have hta : sa.take k = sa := List.take_of_length_le (by have := hla.out; omega)
              have hh3' := hh3.out
              have hWk' := hWk.out
              have hDk' := hDk.out
              rw [hta] at hh3' hWk' hDk'
              have hIv : Iv Wk Dk sL h3 := by rw [hWk', hDk']; exact hVn.out.next hkp.out k0 hh3'
              have hl1 := layN_len sa
              have hl2 := waitL_len sa
              have hl3 := doneL_len sa
              have hll := hla.out
              have hlW' : Wk.length ≤ 204 * (j + 1) := by rw [hWk', List.length_append]; have := hlen.out; omega
              have hlD' : Dk.length ≤ 204 * (j + 1) := by rw [hDk', List.length_append]; have := hlen.out; omega
              have e5 : IntKind.i64.wrap ((j : Int) + 1) = ((j + 1 : Nat) : Int) := by rw [IntKind.wrap_i64]; omega
              have m7 := hps.out.2.mono (m' := max (m + 64) h3) (by omega)
              have m8 : max (m + 64) h3 ≤ 8 + 4000 * ((j + 1 : Nat) : Int) := by have := hlen.out; omega
              have m9 : h3 ≤ max (m + 64) h3 := by omega
              have k8 : 8 ≤ h3 := by omega
              have hkb : h3 ≤ 8 + 3000 * ((j + 1 : Nat) : Int) := by have := hlen.out; omega
              clear hh3' hWk' hDk' hl1 hl2 hl3 hll hta
              replace hlW' := Lib.hid hlW'
              replace hlD' := Lib.hid hlD'
              replace m7 := Lib.hid m7
              replace hIv := Lib.hid hIv
              replace hkb := Lib.hid hkb
              replace k8 := Lib.hid k8
              replace m8 := Lib.hid m8
              replace m9 := Lib.hid m9
              replace hTi := Lib.hid hTi
              replace hBi := Lib.hid hBi
              clear hOk hAi
              go_wp2_with (fail)
              exact ⟨⟨j + 1, h3, max (m + 64) h3, v4, X4, sL, vWk, Wk, vDk, Dk, rfl, rfl, rfl, rfl, by omega, by omega, k8.out, hkb.out, m9.out, m8.out, hTi.out, m7.out, hIv.out, hlW'.out, hlD'.out, hBi.out⟩, by simp [intOf]; omega⟩
        · have z1 : (sf != 0) = true := by simpa using hsf
          have hsa : sa = [] := hf0.out hsf
          have hl0 : la = 0 := by rw [← hla.out, hsa]; rfl
          have z2 : ((la : Int) != 0) = false := by simp [hl0]
          have hsf := Lib.hid hsf
          replace hsa := Lib.hid hsa
          have hIv : Iv Wl Dl sL h2 := by
            have := hVn.out.next (h3 := h2) hkp.out (by omega) (by rw [hsa.out]; simp [layN])
            rw [hsa.out] at this
            simpa [waitL, doneL] using this
          have e5 : IntKind.i64.wrap ((j : Int) + 1) = ((j + 1 : Nat) : Int) := by rw [IntKind.wrap_i64]; omega
          have m7 := Lib.hid (hps.out.2.mono (m' := max (m + 64) h2) (by omega))
          have m8 : max (m + 64) h2 ≤ 8 + 4000 * ((j + 1 : Nat) : Int) := by omega
          have m9 : h2 ≤ max (m + 64) h2 := by omega
          have k8 : 8 ≤ h2 := by omega
          have hkb : h2 ≤ 8 + 3000 * ((j + 1 : Nat) : Int) := by omega
          replace hIv := Lib.hid hIv
          replace hkb := Lib.hid hkb
          replace k8 := Lib.hid k8
          replace m8 := Lib.hid m8
          replace m9 := Lib.hid m9
          replace hl0 := Lib.hid hl0
          go_wp2_with (fail)
          exact ⟨⟨j + 1, h2, max (m + 64) h2, v4, X4, sL, vW, Wl, vD, Dl, rfl, rfl, rfl, rfl, by omega, by omega, k8.out, hkb.out, m9.out, m8.out, hT5.out, m7.out, hIv.out, by omega, by omega, hBr.out⟩, by simp [intOf]; omega⟩
      · have j3 : decide ((j : Int) < n2) = false := by simp; omega
        obtain ⟨h2, hh2⟩ : ∃ h2, hh = h2 := ⟨_, rfl⟩
        have k0 : hh ≤ h2 := by omega
        have k1 : h2 ≤ hh + 32 := by omega
        replace hT := Lib.hid hT
        replace hP := Lib.hid hP
        replace hV := Lib.hid hV
        replace hBr := Lib.hid hBr
        rw [hh2]
        replace hh2 := Lib.hid hh2
        replace hg := Lib.hid hg
        go_wp2_with (fail)
        obtain ⟨⟨sf, sa, sL⟩, hst⟩ : ∃ st, Go.Proofs.Ytmfffaocmboelaa.step L (row s) h2 = st := ⟨_, rfl⟩
        have hps := step_pos L (row s) h2 (by omega) (by omega) (m + 32) (by omega) (hP.out.mono (by omega))
        have hlen := step_len L (row s) h2 j hT.out.f.ord
        have hkp := keep_step L (row s) h2 m (by omega) (by omega) hP.out hV.out.und hT.out.f.ord.low
        rw [hst] at hps hlen hkp
        obtain ⟨hkp, hf0⟩ := hkp
        replace hps := Lib.hid hps
        replace hkp := Lib.hid hkp
        replace hf0 := Lib.hid hf0
        refine (ps_word hT.out s h2 hs (by omega) _ hst).mono ?_
        rintro e w5 ⟨va, v4, X4, rfl, hA, hT5, hB5⟩
        try simp only
        try simp only at hA hT5 hps hkp hf0 hlen
        replace hBr := Lib.hid (hBr.out.trans (hB5.mono hzF.out))
        obtain ⟨Aa, ca, hva⟩ := own_form hA
        obtain ⟨la, hla⟩ : ∃ la, sa.length = la := ⟨_, rfl⟩
        rw [hla] at hlen hva hA
        subst hva
        have z4 : (la : Int) ≤ 204 := by omega
        have hcnt := hT.out.f.th
        replace hA := Lib.hid hA
        replace hT5 := Lib.hid hT5
        replace hlen := Lib.hid hlen
        replace hla := Lib.hid hla
        replace hst := Lib.hid hst
        have hVn := Lib.hid hV.out
        clear hB5 hT hsc' hcnt hV
        by_cases hsf : sf = 0
        · have z1 : (sf != 0) = false := by simp [hsf]
          have hsf := Lib.hid hsf
          obtain ⟨A8, c8, hv8⟩ := own_form hT5.out.rW
          obtain ⟨A9, c9, hv9⟩ := own_form hT5.out.rD
          go_wp2_with (fail)
          go_loopw [7, 8, 9, 13] (fun x7 x8 x9 x13 wi => ∃ (k : Nat) (h3 : Int) (vW : Value) (Wk : List Int) (vD : Value) (Dk : List Int), x7 = .int .i64 h3 ∧ vW = x8 ∧ vD = x9 ∧ x13 = .int .i64 k ∧ k ≤ la ∧ Hid (h3 = h2 + 8 * layN (sa.take k)) ∧ Hid (Wk = Wl ++ waitL (sa.take k)) ∧ Hid (Dk = Dl ++ doneL (sa.take k)) ∧ Ps wi F v4 X4 sL (j + 1) F vW Wk vD Dk ∧ AOk h3 la (sa.drop k) ∧ wi.ownsRow wr.heap.size 36 4 (.slice Aa la ca) la (actC sa) ∧ Below w.heap.size w wi) (fun _ _ _ x13 _ => la - (intOf x13).toNat)
          case atStart => exact ⟨0, h2, vW, Wl, vD, Dl, rfl, rfl, rfl, rfl, by omega, Lib.hid (by simp [layN]), Lib.hid (by simp [waitL]), Lib.hid (by simp [doneL]), hT5.out, by have := hkp.out.ok; rw [hla.out] at this; exact this, hA.out, hBr.out⟩
          case round =>
            obtain ⟨k, h3, vWk, Wk, vDk, Dk, rfl, rfl, rfl, rfl, hk, hh3, hWk, hDk, hTi, hOk, hAi, hBi⟩ := hrel
            have g0 : (0 : Int) ≤ k := by omega
            by_cases hkl : k < la
            · have g1 : (k : Int) < la := by omega
              obtain ⟨ga, ap, aa, ao, at_, rfl, hgl, hga, r0, r1, r2, r3⟩ := row_at hAi hla.out k hkl
              rw [drop_at sa k _ hga] at hOk
              unfold AOk at hOk
              have hBk := Bk.fresh wr 36 #[.bool ap, .int .i64 aa, .int .i64 ao, .int .i64 at_]
              have hWt := waitL_take sa k _ hga
              have hDt := doneL_take sa k _ hga
              have hNt := layN_take sa k _ hga
              have hTl := hTi.rW
              replace hWt := Lib.hid hWt
              replace hDt := Lib.hid hDt
              replace hNt := Lib.hid hNt
              have hWl : Wk.length ≤ 100000 := by
                rw [hWk.out, List.length_append]
                have := waitL_len (sa.take k)
                have := List.length_take_le k sa
                have := hlen.out
                omega
              have hDl : Dk.length ≤ 100000 := by
                rw [hDk.out, List.length_append]
                have := doneL_len (sa.take k)
                have := List.length_take_le k sa
                have := hlen.out
                omega
              have hbnd : 0 ≤ h3 ∧ h3 ≤ 1000000000 := by
                have := hh3.out
                have := layN_len (sa.take k)
                have := List.length_take_le k sa
                omega
              have hTa := hTi.kept (Below.refl wr.heap.size wr |>.alloc (Nat.le_refl _) (.cells #[.bool ap, .int .i64 aa, .int .i64 ao, .int .i64 at_] 36))
              have hBa : Below w.heap.size w (wr.alloc (.cells #[.bool ap, .int .i64 aa, .int .i64 ao, .int .i64 at_] 36)) := hBi.alloc hBi.size _
              have hAa := hAi.alloc (.cells #[.bool ap, .int .i64 aa, .int .i64 ao, .int .i64 at_] 36)
              clear hBk hTl hTi hAi hBi
              replace hWl := Lib.hid hWl
              replace hDl := Lib.hid hDl
              cases ap
              · rw [if_neg (by simp)] at hOk
                simp only at hOk
                obtain ⟨o1, hOk⟩ := hOk
                have f3 : IntKind.i64.wrap (h3 + 8) = h3 + 8 := by rw [IntKind.wrap_i64]; omega
                have z2 : (aa != h3) = false := by simp [o1]
                have hNn : h3 + 8 = h2 + 8 * (layN (sa.take (k + 1)) : Int) := by
                  rw [hNt.out, if_neg (by simp), hh3.out]; push_cast; omega
                have hDn : Dk = Dl ++ doneL (sa.take (k + 1)) := by
                  rw [hDt.out, hDk.out]; simp [doneA]
                replace hOk := Lib.hid hOk
                replace hNn := Lib.hid hNn
                replace hDn := Lib.hid hDn
                replace o1 := Lib.hid o1
                replace hAa := Lib.hid hAa
                replace hBa := Lib.hid hBa
                replace hbnd := Lib.hid hbnd
                by_cases p5 : ao = 5
                · have b5 : (ao == 5) = true := by simpa using p5
                  by_cases p0 : at_ = 0
                  · have b0 : (at_ == 0) = true := by simpa using p0
                    have hWn : Wk ++ [aa] = Wl ++ waitL (sa.take (k + 1)) := by rw [hWt.out, hWk.out]; simp [waitA, p5, p0]
                    obtain ⟨A', c', w9, hrun, hT9, hB9, hrow9⟩ := hTa.add aa hWl.out
                    simp only [World.size_alloc] at hrun
                    have hA9 := hrow9 _ _ _ _ hAa.out
                    have hB9' := hBa.out.trans (hB9.mono hzF.out)
                    replace hrun := Lib.hid hrun
                    replace hT9 := Lib.hid hT9
                    replace hA9 := Lib.hid hA9
                    replace hB9' := Lib.hid hB9'
                    replace hWn := Lib.hid hWn
                    replace p0 := Lib.hid p0
                    try replace p5 := Lib.hid p5
                    try replace p4 := Lib.hid p4
                    try replace p7 := Lib.hid p7
                    clear hTa hAa hBa hB9 hrow9
                    go_wp2_with (at_builtin; refine wpList_append_run rfl (.tmp 122) (.tmp 125) 32 rfl vWk _ _ rfl rfl hrun.out ?_)
                    exact ⟨⟨_, _, _, _, _, ⟨k + 1, h3 + 8, rfl, rfl, by omega, hNn, _, hWn, _, hDn, hT9.out, hOk.out, hA9.out, hB9'.out⟩, rfl, rfl, rfl, rfl, rfl⟩, by simp [intOf]; omega⟩
                  · have b0 : (at_ == 0) = false := by simpa using p0
                    have hWn : Wk = Wl ++ waitL (sa.take (k + 1)) := by rw [hWt.out, hWk.out]; simp [waitA, p0]
                    try replace p0 := Lib.hid p0
                    replace hWn := Lib.hid hWn
                    try replace p5 := Lib.hid p5
                    try replace p4 := Lib.hid p4
                    try replace p7 := Lib.hid p7
                    replace hTa := Lib.hid hTa
                    go_wp2_with (fail)
                    refine ⟨⟨k + 1, h3 + 8, vWk, Wk, vDk, Dk, rfl, rfl, rfl, rfl, by omega, hNn, hWn, hDn, hTa.out, hOk.out, hAa.out, hBa.out⟩, by simp [intOf]; omega⟩
                · have b5 : (ao == 5) = false := by simpa using p5
                  by_cases p4 : ao = 4
                  · have b4 : (ao == 4) = true := by simpa using p4
                    by_cases p0 : at_ = 0
                    · have b0 : (at_ == 0) = true := by simpa using p0
                      have hWn : Wk ++ [aa] = Wl ++ waitL (sa.take (k + 1)) := by rw [hWt.out, hWk.out]; simp [waitA, p4, p0]
                      obtain ⟨A', c', w9, hrun, hT9, hB9, hrow9⟩ := hTa.add aa hWl.out
                      simp only [World.size_alloc] at hrun
                      have hA9 := hrow9 _ _ _ _ hAa.out
                      have hB9' := hBa.out.trans (hB9.mono hzF.out)
                      replace hrun := Lib.hid hrun
                      replace hT9 := Lib.hid hT9
                      replace hA9 := Lib.hid hA9
                      replace hB9' := Lib.hid hB9'
                      replace hWn := Lib.hid hWn
                      replace p0 := Lib.hid p0
                      try replace p5 := Lib.hid p5
                      try replace p4 := Lib.hid p4
                      try replace p7 := Lib.hid p7
                      clear hTa hAa hBa hB9 hrow9
                      go_wp2_with (at_builtin; refine wpList_append_run rfl (.tmp 122) (.tmp 125) 32 rfl vWk _ _ rfl rfl hrun.out ?_)
                      exact ⟨⟨_, _, _, _, _, ⟨k + 1, h3 + 8, rfl, rfl, by omega, hNn, _, hWn, _, hDn, hT9.out, hOk.out, hA9.out, hB9'.out⟩, rfl, rfl, rfl, rfl, rfl⟩, by simp [intOf]; omega⟩
                    · have b0 : (at_ == 0) = false := by simpa using p0
                      have hWn : Wk = Wl ++ waitL (sa.take (k + 1)) := by rw [hWt.out, hWk.out]; simp [waitA, p0]
                      try replace p0 := Lib.hid p0
                      replace hWn := Lib.hid hWn
                      try replace p5 := Lib.hid p5
                      try replace p4 := Lib.hid p4
                      try replace p7 := Lib.hid p7
                      replace hTa := Lib.hid hTa
                      go_wp2_with (fail)
                      refine ⟨⟨k + 1, h3 + 8, vWk, Wk, vDk, Dk, rfl, rfl, rfl, rfl, by omega, hNn, hWn, hDn, hTa.out, hOk.out, hAa.out, hBa.out⟩, by simp [intOf]; omega⟩
                  · have b4 : (ao == 4) = false := by simpa using p4
                    by_cases p7 : ao = 7
                    · have b7 : (ao == 7) = true := by simpa using p7
                      by_cases p0 : at_ = 0
                      · have b0 : (at_ == 0) = true := by simpa using p0
                        have hWn : Wk ++ [aa] = Wl ++ waitL (sa.take (k + 1)) := by rw [hWt.out, hWk.out]; simp [waitA, p7, p0]
                        obtain ⟨A', c', w9, hrun, hT9, hB9, hrow9⟩ := hTa.add aa hWl.out
                        simp only [World.size_alloc] at hrun
                        have hA9 := hrow9 _ _ _ _ hAa.out
                        have hB9' := hBa.out.trans (hB9.mono hzF.out)
                        replace hrun := Lib.hid hrun
                        replace hT9 := Lib.hid hT9
                        replace hA9 := Lib.hid hA9
                        replace hB9' := Lib.hid hB9'
                        replace hWn := Lib.hid hWn
                        replace p0 := Lib.hid p0
                        try replace p5 := Lib.hid p5
                        try replace p4 := Lib.hid p4
                        try replace p7 := Lib.hid p7
                        clear hTa hAa hBa hB9 hrow9
                        go_wp2_with (at_builtin; refine wpList_append_run rfl (.tmp 122) (.tmp 125) 32 rfl vWk _ _ rfl rfl hrun.out ?_)
                        exact ⟨⟨_, _, _, _, _, ⟨k + 1, h3 + 8, rfl, rfl, by omega, hNn, _, hWn, _, hDn, hT9.out, hOk.out, hA9.out, hB9'.out⟩, rfl, rfl, rfl, rfl, rfl⟩, by simp [intOf]; omega⟩
                      · have b0 : (at_ == 0) = false := by simpa using p0
                        have hWn : Wk = Wl ++ waitL (sa.take (k + 1)) := by rw [hWt.out, hWk.out]; simp [waitA, p0]
                        try replace p0 := Lib.hid p0
                        replace hWn := Lib.hid hWn
                        try replace p5 := Lib.hid p5
                        try replace p4 := Lib.hid p4
                        try replace p7 := Lib.hid p7
                        replace hTa := Lib.hid hTa
                        go_wp2_with (fail)
                        refine ⟨⟨k + 1, h3 + 8, vWk, Wk, vDk, Dk, rfl, rfl, rfl, rfl, by omega, hNn, hWn, hDn, hTa.out, hOk.out, hAa.out, hBa.out⟩, by simp [intOf]; omega⟩
                    · have b7 : (ao == 7) = false := by simpa using p7
                      have hWn : Wk = Wl ++ waitL (sa.take (k + 1)) := by rw [hWt.out, hWk.out]; simp [waitA, p5, p4, p7]
                      try replace p0 := Lib.hid p0
                      replace hWn := Lib.hid hWn
                      try replace p5 := Lib.hid p5
                      try replace p4 := Lib.hid p4
                      try replace p7 := Lib.hid p7
                      replace hTa := Lib.hid hTa
                      go_wp2_with (fail)
                      refine ⟨⟨k + 1, h3 + 8, vWk, Wk, vDk, Dk, rfl, rfl, rfl, rfl, by omega, hNn, hWn, hDn, hTa.out, hOk.out, hAa.out, hBa.out⟩, by simp [intOf]; omega⟩
              · rw [if_pos rfl] at hOk
                simp only at hOk
                obtain ⟨o0, o1, o2, hOk⟩ := hOk
                subst o0
                have f1 : IntKind.i64.wrap (8 * (la : Int)) = 8 * la := by rw [IntKind.wrap_i64]; omega
                have f3 : IntKind.i64.wrap (h3 + 8 * (la : Int)) = h3 + 8 * la := by rw [IntKind.wrap_i64]; omega
                have hNn : h3 = h2 + 8 * (layN (sa.take (k + 1)) : Int) := by
                  rw [hNt.out, if_pos rfl, hh3.out]; rfl
                have hWn : Wk = Wl ++ waitL (sa.take (k + 1)) := by
                  rw [hWt.out, hWk.out]; simp [waitA]
                have hDn : Dk ++ [aa] = Dl ++ doneL (sa.take (k + 1)) := by
                  rw [hDt.out, hDk.out]; simp [doneA]
                obtain ⟨A', c', w9, hrun, hT9, hB9, hrow9⟩ := hTa.swap.add aa hDl.out
                simp only [World.size_alloc] at hrun
                have hA9 := hrow9 _ _ _ _ hAa
                have hB9' := hBa.trans (hB9.mono hzF.out)
                replace hrun := Lib.hid hrun
                replace hT9 := Lib.hid hT9
                replace hA9 := Lib.hid hA9
                replace hB9' := Lib.hid hB9'
                replace hOk := Lib.hid hOk
                replace hNn := Lib.hid hNn
                replace hDn := Lib.hid hDn
                replace hWn := Lib.hid hWn
                replace hbnd := Lib.hid hbnd
                clear hTa hAa hBa hB9 hrow9
                go_wp2_with (at_builtin; refine wpList_append_run rfl (.tmp 93) (.tmp 96) 32 rfl vDk _ _ rfl rfl hrun.out ?_)
                exact ⟨⟨_, _, _, _, _, ⟨k + 1, h3, rfl, rfl, by omega, hNn, _, hWn, _, hDn, hT9.out.swap, hOk.out, hA9.out, hB9'.out⟩, rfl, rfl, rfl, rfl, rfl⟩, by simp [intOf]; omega⟩
            · have e : k = la := by omega
              have g1 : ¬ (k : Int) < la := by omega
              have hta : sa.take k = sa := List.take_of_length_le (by have := hla.out; omega)
              have hh3' := hh3.out
              have hWk' := hWk.out
              have hDk' := hDk.out
              rw [hta] at hh3' hWk' hDk'
              have hIv : Iv Wk Dk sL h3 := by rw [hWk', hDk']; exact hVn.out.next hkp.out k0 hh3'
              have hl1 := layN_len sa
              have hl2 := waitL_len sa
              have hl3 := doneL_len sa
              have hll := hla.out
              have hlW' : Wk.length ≤ 204 * (j + 1) := by rw [hWk', List.length_append]; have := hlen.out; omega
              have hlD' : Dk.length ≤ 204 * (j + 1) := by rw [hDk', List.length_append]; have := hlen.out; omega
              have e5 : IntKind.i64.wrap ((j : Int) + 1) = ((j + 1 : Nat) : Int) := by rw [IntKind.wrap_i64]; omega
              have m7 := hps.out.2.mono (m' := max (m + 64) h3) (by omega)
              have m8 : max (m + 64) h3 ≤ 8 + 4000 * ((j + 1 : Nat) : Int) := by have := hlen.out; omega
              have m9 : h3 ≤ max (m + 64) h3 := by omega
              have k8 : 8 ≤ h3 := by omega
              have hkb : h3 ≤ 8 + 3000 * ((j + 1 : Nat) : Int) := by have := hlen.out; omega
              clear hh3' hWk' hDk' hl1 hl2 hl3 hll hta
              replace hlW' := Lib.hid hlW'
              replace hlD' := Lib.hid hlD'
              replace m7 := Lib.hid m7
              replace hIv := Lib.hid hIv
              replace hkb := Lib.hid hkb
              replace k8 := Lib.hid k8
              replace m8 := Lib.hid m8
              replace m9 := Lib.hid m9
              replace hTi := Lib.hid hTi
              replace hBi := Lib.hid hBi
              clear hOk hAi
              go_wp2_with (fail)
              exact ⟨⟨j + 1, h3, max (m + 64) h3, v4, X4, sL, vWk, Wk, vDk, Dk, rfl, rfl, rfl, rfl, by omega, by omega, k8.out, hkb.out, m9.out, m8.out, hTi.out, m7.out, hIv.out, hlW'.out, hlD'.out, hBi.out⟩, by simp [intOf]; omega⟩
        · have z1 : (sf != 0) = true := by simpa using hsf
          have hsa : sa = [] := hf0.out hsf
          have hl0 : la = 0 := by rw [← hla.out, hsa]; rfl
          have z2 : ((la : Int) != 0) = false := by simp [hl0]
          have hsf := Lib.hid hsf
          replace hsa := Lib.hid hsa
          have hIv : Iv Wl Dl sL h2 := by
            have := hVn.out.next (h3 := h2) hkp.out (by omega) (by rw [hsa.out]; simp [layN])
            rw [hsa.out] at this
            simpa [waitL, doneL] using this
          have e5 : IntKind.i64.wrap ((j : Int) + 1) = ((j + 1 : Nat) : Int) := by rw [IntKind.wrap_i64]; omega
          have m7 := Lib.hid (hps.out.2.mono (m' := max (m + 64) h2) (by omega))
          have m8 : max (m + 64) h2 ≤ 8 + 4000 * ((j + 1 : Nat) : Int) := by omega
          have m9 : h2 ≤ max (m + 64) h2 := by omega
          have k8 : 8 ≤ h2 := by omega
          have hkb : h2 ≤ 8 + 3000 * ((j + 1 : Nat) : Int) := by omega
          replace hIv := Lib.hid hIv
          replace hkb := Lib.hid hkb
          replace k8 := Lib.hid k8
          replace m8 := Lib.hid m8
          replace m9 := Lib.hid m9
          replace hl0 := Lib.hid hl0
          go_wp2_with (fail)
          exact ⟨⟨j + 1, h2, max (m + 64) h2, v4, X4, sL, vW, Wl, vD, Dl, rfl, rfl, rfl, rfl, by omega, by omega, k8.out, hkb.out, m9.out, m8.out, hT5.out, m7.out, hIv.out, by omega, by omega, hBr.out⟩, by simp [intOf]; omega⟩
    · obtain ⟨A8, c8, hv8⟩ := own_form hT.rW
      obtain ⟨A9, c9, hv9⟩ := own_form hT.rD
      have hE := end_any hT.f.fl
      have hO := open_any hT.f.fl
      have hXL : X.length = L.length := by rw [← hT.f.th]; simp
      rw [hXL] at hE hO
      subst hv8
      subst hv9
      obtain ⟨nW, hnW⟩ : ∃ nW, Wl.length = nW := ⟨_, rfl⟩
      obtain ⟨nD, hnD⟩ : ∃ nD, Dl.length = nD := ⟨_, rfl⟩
      have hle := hV.len
      rw [hnW, hnD] at hle
      rw [hnW] at hlW
      have y1 : (nW : Int) ≤ 50000 := by omega
      have hrW := hT.rW
      have hrD := hT.rD
      rw [hnW] at hrW
      rw [hnD] at hrD
      rw [hnW, hnD]
      replace hE := Lib.hid hE
      replace hO := Lib.hid hO
      replace hT := Lib.hid hT
      replace hP := Lib.hid hP
      replace hBr := Lib.hid hBr
      replace hrW := Lib.hid hrW
      replace hrD := Lib.hid hrD
      replace hnW := Lib.hid hnW
      replace hnD := Lib.hid hnD
      by_cases hjn2 : j < n
      · have j1 : (j : Int) < n := by omega
        have j5 : ¬ (j : Int) < 200 := by omega
        clear hj
        by_cases hL : L.length = 0
        · rw [if_pos hL] at hE
          have hL0 : L = [] := List.eq_nil_of_length_eq_zero hL
          subst hL0
          obtain ⟨f1, f2⟩ := hV.fin
          rw [hnW.out, hnD.out] at f1
          subst f1
          have z2 : ((nD : Int) != nD) = false := by simp
          replace f2 := Lib.hid f2
          replace hV := Lib.hid hV
          replace hL := Lib.hid hL
          go_wp2_with (fail)
          refine hE.out.mono ?_
          rintro e w6 ⟨rfl, hw6⟩
          replace hw6 := hw6.symm
          subst hw6
          go_wp2_with (fail)
          have hO0 : Hid (Calls Try.prog 13 #[.pointer (some ⟨F, 0, none⟩)] wr fun e w' => e = .returned (.int .i64 0) ∧ w' = wr) := hO.out
          obtain ⟨wz, hwz⟩ : ∃ wz, wr = wz := ⟨_, rfl⟩
          rw [hwz] at hO0 hrW hrD hBr hT ⊢
          clear hwz hE hO hP hV hXL
          go_loopw [15] (fun x15 wr => ∃ (i : Nat), x15 = .int .i64 i ∧ i ≤ nD ∧ ∃ z, wr = wz.drewN z) (fun x15 _ => nD - (intOf x15).toNat)
          case atStart => exact ⟨0, rfl, by omega, 0, rfl⟩
          case round =>
            obtain ⟨i, rfl, hi, z, hz⟩ := hrel
            have HZ : Hid (∃ z, wr = wz.drewN z) := ⟨z, hz⟩
            clear hz
            have g0 : (0 : Int) ≤ i := by omega
            by_cases hil : i < nD
            · have g1 : (i : Int) < nD := by omega
              obtain ⟨gw, x, rfl, hgx, hcx⟩ := ints_at hrW.out hnW.out i hil
              have hone := f2.out x (List.mem_of_getElem? hgx)
              replace hone := Lib.hid hone
              replace hgx := Lib.hid hgx
              go_wp2_with (fail)
              go_loopw [16, 17] (fun x16 x17 wi => ∃ (k : Nat), x16 = .int .i64 ((Dl.take k).count x : Nat) ∧ x17 = .int .i64 k ∧ k ≤ nD ∧ ∃ z, wi = wz.drewN z) (fun _ x17 _ => nD - (intOf x17).toNat)
              case atStart => exact ⟨0, rfl, rfl, by omega, HZ.out⟩
              case round =>
                obtain ⟨k, rfl, rfl, hk, z, hz⟩ := hrel
                have k0 : (0 : Int) ≤ k := by omega
                have hcell : ∀ p, wr.cell? p = wz.cell? p := fun p => by rw [hz]; rfl
                replace HZ : Hid (∃ z, wr = wz.drewN z) := ⟨z, hz⟩
                clear hz
                obtain ⟨ct, hct⟩ : ∃ ct, (Dl.take k).count x = ct := ⟨_, rfl⟩
                have hctl : ct ≤ 50000 := by
                  have h1 := List.count_le_length (a := x) (l := Dl.take k)
                  have h2 := List.length_take_le k Dl
                  omega
                have ct0 : (0 : Int) ≤ ct := by omega
                rw [hct]
                by_cases hkl : k < nD
                · have k1 : (k : Int) < nD := by omega
                  obtain ⟨gd, d, rfl, hgd, hcd⟩ := ints_at hrD.out hnD.out k hkl
                  have c1 := (hcell _).trans hcd
                  have c2 := (hcell _).trans hcx
                  have hcn := count_take Dl k d x hgd
                  rw [hct] at hcn
                  have hct2 : IntKind.i64.wrap ((ct : Int) + 1) = ((ct + 1 : Nat) : Int) := by rw [IntKind.wrap_i64]; omega
                  replace hgd := Lib.hid hgd
                  replace hct := Lib.hid hct
                  by_cases hdx : d = x
                  · rw [if_pos hdx] at hcn
                    have b1 : (d == x) = true := by simpa using hdx
                    replace hcn := Lib.hid hcn
                    replace hdx := Lib.hid hdx
                    clear hcell
                    go_wp2_with (fail)
                    go_quiet (fail)
                    go_wp2_with (fail)
                    obtain ⟨z, hz⟩ := HZ.out
                    exact ⟨⟨k + 1, by rw [hcn.out]; rfl, rfl, by omega, z + nq, by rw [hz, World.drewN_drewN]⟩, by simp [intOf]; omega⟩
                  · rw [if_neg hdx] at hcn
                    have b1 : (d == x) = false := by simpa using hdx
                    replace hcn := Lib.hid hcn
                    replace hdx := Lib.hid hdx
                    clear hcell hct2
                    go_wp2_with (fail)
                    go_quiet (fail)
                    go_wp2_with (fail)
                    obtain ⟨z, hz⟩ := HZ.out
                    exact ⟨⟨k + 1, by rw [hcn.out]; rfl, rfl, by omega, z + nq, by rw [hz, World.drewN_drewN]⟩, by simp [intOf]; omega⟩
                · have e : k = nD := by omega
                  have k1 : ¬ (k : Int) < nD := by omega
                  have hta : Dl.take k = Dl := List.take_of_length_le (by have := hnD.out; omega)
                  rw [hta, hone.out] at hct
                  have hct1 : ct = 1 := hct.symm
                  subst hct1
                  clear hcell hta
                  go_wp2_with (fail)
                  exact ⟨⟨i + 1, rfl, by omega, HZ.out⟩, by simp [intOf]; omega⟩
            · have g1 : ¬ (i : Int) < nD := by omega
              obtain ⟨z, hz⟩ := HZ.out
              have hO1 := open_any ((hT.out.kept (below_drewN (Below.refl _ _) z)).f.fl)
              rw [← hz] at hO1
              have hX0 : X.length = 0 := by have := congrArg List.length hT.out.f.th; simpa using this
              rw [hX0] at hO1
              have hB9 : Below w.heap.size w wr := by rw [hz]; exact below_drewN hBr.out z
              replace hB9 := Lib.hid hB9
              replace hO1 := Lib.hid hO1
              clear hz hO0
              go_wp2_with (fail)
              refine hO1.out.mono ?_
              rintro e w6 ⟨rfl, hw6⟩
              replace hw6 := hw6.symm
              subst hw6
              go_wp2_with (fail)
              go_returns
              exact ⟨rfl, hB9.out⟩
        · rw [if_neg hL] at hE
          have y2 : 0 < L.length := by omega
          obtain ⟨nL, hnL⟩ : ∃ nL, L.length = nL := ⟨_, rfl⟩
          rw [hnL] at hO hL y2
          have y3 : (0 : Int) < nL := by omega
          have y4 : IntKind.i64.wrap ((nW : Int) + 17) = nW + 17 := by rw [IntKind.wrap_i64]; omega
          have y5 : (nD : Int) < nW + 17 := by omega
          replace hV := Lib.hid hV
          replace hL := Lib.hid hL
          replace hnL := Lib.hid hnL
          replace hle := Lib.hid hle
          replace hlW := Lib.hid hlW
          go_wp2_with (fail)
          refine hE.out.mono ?_
          rintro e w6 ⟨rfl, hw6⟩
          replace hw6 := hw6.symm
          subst hw6
          go_wp2_with (fail)
          refine hO.out.mono ?_
          rintro e w6 ⟨rfl, hw6⟩
          replace hw6 := hw6.symm
          subst hw6
          go_wp2_with (fail)
          go_returns
          exact ⟨rfl, hBr.out⟩
      · have j1 : ¬ (j : Int) < n := by omega
        clear hj
        by_cases hL : L.length = 0
        · rw [if_pos hL] at hE
          have hL0 : L = [] := List.eq_nil_of_length_eq_zero hL
          subst hL0
          obtain ⟨f1, f2⟩ := hV.fin
          rw [hnW.out, hnD.out] at f1
          subst f1
          have z2 : ((nD : Int) != nD) = false := by simp
          replace f2 := Lib.hid f2
          replace hV := Lib.hid hV
          replace hL := Lib.hid hL
          go_wp2_with (fail)
          refine hE.out.mono ?_
          rintro e w6 ⟨rfl, hw6⟩
          replace hw6 := hw6.symm
          subst hw6
          go_wp2_with (fail)
          have hO0 : Hid (Calls Try.prog 13 #[.pointer (some ⟨F, 0, none⟩)] wr fun e w' => e = .returned (.int .i64 0) ∧ w' = wr) := hO.out
          obtain ⟨wz, hwz⟩ : ∃ wz, wr = wz := ⟨_, rfl⟩
          rw [hwz] at hO0 hrW hrD hBr hT ⊢
          clear hwz hE hO hP hV hXL
          go_loopw [15] (fun x15 wr => ∃ (i : Nat), x15 = .int .i64 i ∧ i ≤ nD ∧ ∃ z, wr = wz.drewN z) (fun x15 _ => nD - (intOf x15).toNat)
          case atStart => exact ⟨0, rfl, by omega, 0, rfl⟩
          case round =>
            obtain ⟨i, rfl, hi, z, hz⟩ := hrel
            have HZ : Hid (∃ z, wr = wz.drewN z) := ⟨z, hz⟩
            clear hz
            have g0 : (0 : Int) ≤ i := by omega
            by_cases hil : i < nD
            · have g1 : (i : Int) < nD := by omega
              obtain ⟨gw, x, rfl, hgx, hcx⟩ := ints_at hrW.out hnW.out i hil
              have hone := f2.out x (List.mem_of_getElem? hgx)
              replace hone := Lib.hid hone
              replace hgx := Lib.hid hgx
              go_wp2_with (fail)
              go_loopw [16, 17] (fun x16 x17 wi => ∃ (k : Nat), x16 = .int .i64 ((Dl.take k).count x : Nat) ∧ x17 = .int .i64 k ∧ k ≤ nD ∧ ∃ z, wi = wz.drewN z) (fun _ x17 _ => nD - (intOf x17).toNat)
              case atStart => exact ⟨0, rfl, rfl, by omega, HZ.out⟩
              case round =>
                obtain ⟨k, rfl, rfl, hk, z, hz⟩ := hrel
                have k0 : (0 : Int) ≤ k := by omega
                have hcell : ∀ p, wr.cell? p = wz.cell? p := fun p => by rw [hz]; rfl
                replace HZ : Hid (∃ z, wr = wz.drewN z) := ⟨z, hz⟩
                clear hz
                obtain ⟨ct, hct⟩ : ∃ ct, (Dl.take k).count x = ct := ⟨_, rfl⟩
                have hctl : ct ≤ 50000 := by
                  have h1 := List.count_le_length (a := x) (l := Dl.take k)
                  have h2 := List.length_take_le k Dl
                  omega
                have ct0 : (0 : Int) ≤ ct := by omega
                rw [hct]
                by_cases hkl : k < nD
                · have k1 : (k : Int) < nD := by omega
                  obtain ⟨gd, d, rfl, hgd, hcd⟩ := ints_at hrD.out hnD.out k hkl
                  have c1 := (hcell _).trans hcd
                  have c2 := (hcell _).trans hcx
                  have hcn := count_take Dl k d x hgd
                  rw [hct] at hcn
                  have hct2 : IntKind.i64.wrap ((ct : Int) + 1) = ((ct + 1 : Nat) : Int) := by rw [IntKind.wrap_i64]; omega
                  replace hgd := Lib.hid hgd
                  replace hct := Lib.hid hct
                  by_cases hdx : d = x
                  · rw [if_pos hdx] at hcn
                    have b1 : (d == x) = true := by simpa using hdx
                    replace hcn := Lib.hid hcn
                    replace hdx := Lib.hid hdx
                    clear hcell
                    go_wp2_with (fail)
                    go_quiet (fail)
                    go_wp2_with (fail)
                    obtain ⟨z, hz⟩ := HZ.out
                    exact ⟨⟨k + 1, by rw [hcn.out]; rfl, rfl, by omega, z + nq, by rw [hz, World.drewN_drewN]⟩, by simp [intOf]; omega⟩
                  · rw [if_neg hdx] at hcn
                    have b1 : (d == x) = false := by simpa using hdx
                    replace hcn := Lib.hid hcn
                    replace hdx := Lib.hid hdx
                    clear hcell hct2
                    go_wp2_with (fail)
                    go_quiet (fail)
                    go_wp2_with (fail)
                    obtain ⟨z, hz⟩ := HZ.out
                    exact ⟨⟨k + 1, by rw [hcn.out]; rfl, rfl, by omega, z + nq, by rw [hz, World.drewN_drewN]⟩, by simp [intOf]; omega⟩
                · have e : k = nD := by omega
                  have k1 : ¬ (k : Int) < nD := by omega
                  have hta : Dl.take k = Dl := List.take_of_length_le (by have := hnD.out; omega)
                  rw [hta, hone.out] at hct
                  have hct1 : ct = 1 := hct.symm
                  subst hct1
                  clear hcell hta
                  go_wp2_with (fail)
                  exact ⟨⟨i + 1, rfl, by omega, HZ.out⟩, by simp [intOf]; omega⟩
            · have g1 : ¬ (i : Int) < nD := by omega
              obtain ⟨z, hz⟩ := HZ.out
              have hO1 := open_any ((hT.out.kept (below_drewN (Below.refl _ _) z)).f.fl)
              rw [← hz] at hO1
              have hX0 : X.length = 0 := by have := congrArg List.length hT.out.f.th; simpa using this
              rw [hX0] at hO1
              have hB9 : Below w.heap.size w wr := by rw [hz]; exact below_drewN hBr.out z
              replace hB9 := Lib.hid hB9
              replace hO1 := Lib.hid hO1
              clear hz hO0
              go_wp2_with (fail)
              refine hO1.out.mono ?_
              rintro e w6 ⟨rfl, hw6⟩
              replace hw6 := hw6.symm
              subst hw6
              go_wp2_with (fail)
              go_returns
              exact ⟨rfl, hB9.out⟩
        · rw [if_neg hL] at hE
          have y2 : 0 < L.length := by omega
          obtain ⟨nL, hnL⟩ : ∃ nL, L.length = nL := ⟨_, rfl⟩
          rw [hnL] at hO hL y2
          have y3 : (0 : Int) < nL := by omega
          have y4 : IntKind.i64.wrap ((nW : Int) + 17) = nW + 17 := by rw [IntKind.wrap_i64]; omega
          have y5 : (nD : Int) < nW + 17 := by omega
          replace hV := Lib.hid hV
          replace hL := Lib.hid hL
          replace hnL := Lib.hid hnL
          replace hle := Lib.hid hle
          replace hlW := Lib.hid hlW
          go_wp2_with (fail)
          refine hE.out.mono ?_
          rintro e w6 ⟨rfl, hw6⟩
          replace hw6 := hw6.symm
          subst hw6
          go_wp2_with (fail)
          refine hO.out.mono ?_
          rintro e w6 ⟨rfl, hw6⟩
          replace hw6 := hw6.symm
          subst hw6
          go_wp2_with (fail)
          go_returns
          exact ⟨rfl, hBr.out⟩
end Go.Proofs.Ytmfffaocmboelaa
