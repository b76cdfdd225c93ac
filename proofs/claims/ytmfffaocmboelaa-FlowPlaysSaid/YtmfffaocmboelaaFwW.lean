import Derived.Test.YtmfffaocmboelaaFwV
import Derived.Test.YtmfffaocmboelaaPick
import Derived.Test.YtmfffaocmboelaaPostStrs
import Derived.Test.YtmfffaocmboelaaPostInts
namespace Go.Proofs.Ytmfffaocmboelaa
open Go.RowKit
set_option linter.unusedVariables false
set_option linter.unusedSimpArgs false
/-! two flows side by side; FlowShifts -/
structure Tf (w : World) (F : Nat) (v : Value) (X : List (Th × Value)) (L : List Th) (i G : Nat) (u : Value) (Y : List (Th × Value)) (M : List Th) (j B : Nat) : Prop where
  f : Fw w F v X L i B
  g : Fw w G u Y M j B
  sep : ∀ k, (k = F ∨ ownOf v X k) → ¬ (k = G ∨ ownOf u Y k)
section
variable {w w' : World} {F G i j B : Nat} {u v : Value} {X Y : List (Th × Value)} {L M : List Th}
theorem Tf.swap (h : Tf w F v X L i G u Y M j B) : Tf w G u Y M j F v X L i B := ⟨h.g, h.f, fun k h1 h2 => h.sep k h2 h1⟩
theorem Tf.kept (h : Tf w F v X L i G u Y M j B) (hB : Below w.heap.size w w') : Tf w' F v X L i G u Y M j B := ⟨h.f.kept hB, h.g.kept hB, h.sep⟩
theorem Tf.draws (h : Tf w F v X L i G u Y M j B) (n : Nat) : Tf (w.drewN n) F v X L i G u Y M j B := h.kept (below_drewN (Below.refl _ _) n)
theorem tf_word (h : Tf w F v X L i G u Y M j B) (s : ByteArray) (here : Int) (hs : s.size ≤ maxLen) (hi : i < 50000) (st : St) (hst : Go.Proofs.Ytmfffaocmboelaa.step L (row s) here = st) :
    Calls Try.prog 9 #[.pointer (some ⟨F, 0, none⟩), .string s, .int .i64 here] w fun e w' => ∃ va v' X', e = .returned (.tuple #[va, .int .i64 st.f]) ∧ w'.ownsRow w.heap.size 36 4 va st.acts.length (actC st.acts) ∧ Tf w' F v' X' st.L (i + 1) G u Y M j B ∧ Below B w w' ∧
      ∀ base n vb xs, w.ownsRow base 36 4 vb n xs → w'.ownsRow base 36 4 vb n xs := by
  refine (word_fw h.f s here hs hi st hst).mono fun e w' ⟨va, v', X', he, hrow, hF, hO, hown⟩ => ?_
  have hg : ∀ k, (k = G ∨ ownOf u Y k) → ¬ Own F v X w.heap.size k := fun k hk ho => by
    rcases ho with ho | ho | ho
    · exact h.sep k (.inl ho) hk
    · exact h.sep k (.inr ho) hk
    · have := h.g.lt hk; omega
  refine ⟨va, v', X', he, hrow, ⟨hF, h.g.keep hO hg, fun k hk hk2 => ?_⟩, h.f.below hO, fun base n vb xs hr => h.f.acts hr hO⟩
  rcases hk with hk | hk
  · exact h.sep k (.inl hk) hk2
  · rcases hown k hk with hk | hk
    · exact h.sep k (.inr hk) hk2
    · have := h.g.lt hk2; omega
theorem tf_new (w : World) : Tf ((w.alloc (.cells #[.slice none 0 0] 57)).alloc (.cells #[.slice none 0 0] 57)) w.heap.size (.slice none 0 0) [] [] 0 (w.heap.size + 1) (.slice none 0 0) [] [] 0 w.heap.size := by
  have h1 := (fw_new w).kept (Below.refl _ _ |>.alloc (Nat.le_refl _) (.cells #[.slice none 0 0] 57))
  have h2 := fw_new (w.alloc (.cells #[.slice none 0 0] 57))
  have hz : (w.alloc (.cells #[.slice none 0 0] 57)).heap.size = w.heap.size + 1 := by simp
  rw [hz] at h2
  have hno : ∀ k, ¬ ownOf (.slice none 0 0) [] k := fun k h => h.elim (fun h => by simp [Value.ownBlock] at h) (fun ⟨x, hx, _⟩ => by cases hx)
  exact ⟨h1, ⟨h2.fl, h2.th, h2.ord, by omega, fun k hk => absurd hk (hno k)⟩, fun k hk hk2 => by
    rcases hk with rfl | hk
    · rcases hk2 with hk2 | hk2
      · omega
      · exact hno _ hk2
    · exact hno _ hk⟩
theorem Tf.len (h : Tf w F v X L i G u Y M j B) : X.length = L.length ∧ Y.length = M.length := ⟨by rw [← h.f.th]; simp, by rw [← h.g.th]; simp⟩
end
/-- an act's cells -/
theorem lies_at {w : World} {v : Value} {l : List Ac} (h : Lies w v l) : ∃ A c, v = .slice A l.length c ∧ ∀ k, k < l.length → ∃ g a, A = some ⟨g, 0, none⟩ ∧ l[k]? = some a ∧ w.cell? ⟨g, k * 4, none⟩ = some (.bool a.patch) ∧ w.cell? ⟨g, k * 4 + 1, none⟩ = some (.int .i64 a.at_) ∧ w.cell? ⟨g, k * 4 + 2, none⟩ = some (.int .i64 a.op) ∧ w.cell? ⟨g, k * 4 + 3, none⟩ = some (.int .i64 a.tgt) := by
  obtain ⟨A, c, e, hg⟩ := h
  refine ⟨A, c, e, fun k hk => ?_⟩
  obtain ⟨g, rfl, hg2⟩ := hg (Nat.lt_of_le_of_lt (Nat.zero_le _) hk)
  have ha := List.getElem?_eq_getElem hk
  exact ⟨g, l[k], rfl, ha, hg2 k _ ha⟩
set_option maxHeartbeats 4000000 in
set_option maxRecDepth 100000 in
theorem walk_shifts (A : Option Addr) (n c : Nat) (A2 : Option Addr) (n2 c2 : Nat) (by_ : Int) (w : World) (hS : Strs w A n) (hI : Ints w A2 n2) (hn2 : n2 ≤ 140737488351232) (hby : -9223372036854775808 ≤ by_ ∧ by_ ≤ 9223372036854775807) :
    Calls Try.prog 4 #[.slice A n c, .slice A2 n2 c2, .int .i64 by_] w fun e w' => e = .returned (.bool true) ∧ Below w.heap.size w w' := by
  have hn := hS.1
  have q1 : (n : Int) ≤ 140737488351232 := by omega
  have q2 : (n2 : Int) ≤ 140737488351232 := by omega
  replace hS := Lib.hid hS
  replace hI := Lib.hid hI
  replace hby := Lib.hid hby
  go_enter Try.func4, Try.ntmps4
  go_wp2_with (fail)
  refine (shown_any w).mono ?_
  rintro e w0 ⟨rfl, hb0⟩
  replace hb0 := Lib.hid hb0
  go_wp2_with (fail)
  refine (new_any w0).mono ?_
  rintro e w1 ⟨rfl, hw1⟩
  replace hw1 := Lib.hid hw1
  go_wp2_with (fail)
  refine (new_any w1).mono ?_
  rintro e w2 ⟨rfl, hw2⟩
  have hT := tf_new w0
  rw [← hw1.out, ← hw2] at hT
  have hB : Below w0.heap.size w0 w2 := by rw [hw2, hw1.out]; exact ((Below.refl _ _).alloc (Nat.le_refl _) _).alloc (by simp) _
  have hz : w1.heap.size = w0.heap.size + 1 := by rw [hw1.out]; simp
  rw [hz]
  obtain ⟨F, hF⟩ : ∃ F, w0.heap.size = F := ⟨_, rfl⟩
  rw [hF] at hT hB ⊢
  clear hw1 hw2 hz
  have hBw : Below w.heap.size w w2 := hb0.out.trans (hB.mono (by rw [← hF]; exact hb0.out.size))
  have hzF : w.heap.size ≤ F := by rw [← hF]; exact hb0.out.size
  clear hb0 hB
  replace hT := Lib.hid hT
  replace hF := Lib.hid hF
  replace hBw := Lib.hid hBw
  replace hzF := Lib.hid hzF
  have hpk := fun w => pick_any by_ 1000 w hby.out.1 hby.out.2 (by decide) (by decide)
  have hpl := pickN_lt by_ 1000 (by decide)
  have hpk1 : ∀ w, Calls Try.prog 12 #[.int .i64 by_, .int .i64 1000] w fun e w' => e = .returned (.int .i64 (pickN by_ 1000)) ∧ w' = w := hpk
  clear hpk
  obtain ⟨p, hp⟩ : ∃ p, pickN by_ 1000 = p := ⟨_, rfl⟩
  rw [hp] at hpk1 hpl
  have p0 : (0 : Int) ≤ p := by omega
  have p1 : (p : Int) < 1000 := by omega
  replace hpk1 := Lib.hid hpk1
  replace hp := Lib.hid hp
  have e1 : IntKind.i64.wrap (1 + (p : Int)) = 1 + p := by rw [IntKind.wrap_i64]; omega
  have e2 : IntKind.i64.wrap (8 * (1 + (p : Int))) = 8 * (1 + p) := by rw [IntKind.wrap_i64]; omega
  go_wp2_with (go_at_call 12; refine (hpk1.out _).mono ?_; rintro e w3 ⟨rfl, hw3⟩; replace hw3 := hw3.symm; subst hw3)
  have d0 : (0 : Int) ≤ 8 * (1 + (p : Int)) ∧ 8 * (1 + (p : Int)) ≤ 8000 := by omega
  clear e1 e2 hp hpk1
  generalize 8 * (1 + (p : Int)) = d at *
  clear p0 p1 hpl
  replace d0 := Lib.hid d0
  go_loopw [10, 11] (fun x10 x11 wr => ∃ (j : Nat) (hh m : Int) (v u : Value) (X Y : List (Th × Value)) (L : List Th), x10 = .int .i64 hh ∧ x11 = .int .i64 j ∧ j ≤ n ∧ j ≤ 200 ∧ 8 ≤ hh ∧ hh ≤ 8 + 3000 * j ∧ hh ≤ m ∧ m ≤ 8 + 4000 * j ∧ Tf wr F v X L j (F + 1) u Y (L.map (shT d)) j F ∧ Pos L m ∧ Below w.heap.size w wr) (fun _ x11 _ => n - (intOf x11).toNat)
  case atStart => exact ⟨0, 8, 8, _, _, _, _, [], rfl, rfl, by omega, by omega, by omega, by omega, by omega, by omega, hT.out, Pos.nil _, hBw.out⟩
  case round =>
    obtain ⟨j, hh, m, v, u, X, Y, L, rfl, rfl, hjn, hj2, hh0, hh1, hm0, hm1, hT, hP, hBr⟩ := hrel
    have j0 : (0 : Int) ≤ j := by omega
    by_cases hj : j < n ∧ j < 200
    · have j1 : (j : Int) < n := by omega
      have j2 : (j : Int) < 200 := by omega
      obtain ⟨sb, so, s, rfl, hsb, hsc, hss⟩ := hS.out.2 j hj.1
      have hsc' : wr.cell? ⟨sb, so + j, none⟩ = some (.string s) := (hBr.cell (p := ⟨sb, so + j, none⟩) hsb).trans hsc
      have hs : s.size ≤ maxLen := Nat.le_trans hss (by decide)
      by_cases hg : j < n2
      · have j3 : (j : Int) < n2 := by omega
        obtain ⟨gb, go, gv, rfl, hgb, hgc, hgr⟩ := hI.out.2 j hg
        have hgc' : wr.cell? ⟨gb, go + j, none⟩ = some (.int .i64 gv) := (hBr.cell (p := ⟨gb, go + j, none⟩) hgb).trans hgc
        have hpk := pick_any gv 5 wr hgr.1 hgr.2 (by decide) (by decide)
        have hpl := pickN_lt gv 5 (by decide)
        simp only [show ((5 : Int).toNat) = 5 from rfl] at hpk
        obtain ⟨q, hq⟩ : ∃ p, pickN gv 5 = p := ⟨_, rfl⟩
        rw [hq] at hpk hpl
        have w1 : IntKind.i64.wrap (8 * (q : Int)) = 8 * q := by rw [IntKind.wrap_i64]; omega
        have w2 : IntKind.i64.wrap (hh + 8 * (q : Int)) = hh + 8 * q := by rw [IntKind.wrap_i64]; omega
        have w3 : 8 * (q : Int) ≤ 32 := by omega
        have w4 : 0 ≤ 8 * (q : Int) := by omega
        replace hpk := Lib.hid hpk
        replace hT := Lib.hid hT
        replace hP := Lib.hid hP
        replace hBr := Lib.hid hBr
        replace hq := Lib.hid hq
        replace hpl := Lib.hid hpl
        go_wp2_with (go_at_call 12; refine hpk.out.mono ?_; rintro e w3 ⟨rfl, hw3⟩; replace hw3 := hw3.symm; subst hw3)
        obtain ⟨h2, hh2⟩ : ∃ h2, hh + 8 * (q : Int) = h2 := ⟨_, rfl⟩
        rw [hh2]
        have k0 : hh ≤ h2 := by omega
        have k1 : h2 ≤ hh + 32 := by omega
        clear w1 w2 w3 w4 hh2 hgc' hgc hgr
        obtain ⟨⟨sf, sa, sL⟩, hst⟩ : ∃ st, Go.Proofs.Ytmfffaocmboelaa.step L (row s) h2 = st := ⟨_, rfl⟩
        have hs2 := step_sh d L (row s) h2 m d0.out.1 (by have := d0.out.2; omega) (by omega) (by omega) hP.out
        have hps := step_pos L (row s) h2 (by omega) (by omega) (m + 32) (by omega) (hP.out.mono (by omega))
        have hlen := step_len L (row s) h2 j hT.out.f.ord
        rw [hst] at hs2 hps hlen
        simp only [shS] at hs2 hps hlen
        have e3 : IntKind.i64.wrap (h2 + d) = h2 + d := by have := d0.out; rw [IntKind.wrap_i64]; omega
        replace hs2 := Lib.hid hs2
        replace hps := Lib.hid hps
        refine (tf_word hT.out s h2 hs (by omega) _ hst).mono ?_
        rintro e w4 ⟨va, v4, X4, rfl, hA, hT4, hB4, _⟩
        have hsc4 : w4.cell? ⟨sb, so + j, none⟩ = some (.string s) := ((hBr.out.trans (hB4.mono hzF.out)).cell (p := ⟨sb, so + j, none⟩) hsb).trans hsc
        replace hBr := Lib.hid (hBr.out.trans (hB4.mono hzF.out))
        replace hA := Lib.hid hA
        replace hT4 := Lib.hid hT4
        replace hst := Lib.hid hst
        clear hB4 hT hsc'
        try simp only
        go_wp2_with (fail)
        refine (tf_word hT4.out.swap s (h2 + d) hs (by omega) _ hs2.out).mono ?_
        rintro e w5 ⟨vb, u5, Y5, rfl, hC, hT5, hB5, hk5⟩
        try simp only
        try simp only at hC
        try simp only at hT5
        have hA5 := hk5 _ _ _ _ hA.out
        replace hBr := Lib.hid (hBr.out.trans (hB5.mono hzF.out))
        obtain ⟨Aa, ca, rfl, hAa⟩ := lies_at (lies_row hA5)
        obtain ⟨Ab, cb, rfl, hAb⟩ := lies_at (lies_row hC)
        try simp only at hAa
        try simp only at hAb
        try simp only at hlen
        rw [List.length_map] at hAb ⊢
        have hO1 := open_any hT5.g.fl
        have hO2 := open_any hT5.f.fl
        have hl5 := hT5.len
        rw [List.length_map] at hl5
        rw [hl5.1] at hO2
        rw [hl5.2] at hO1
        obtain ⟨lo, hlo⟩ : ∃ lo, sL.length = lo := ⟨_, rfl⟩
        obtain ⟨la, hla⟩ : ∃ la, sa.length = la := ⟨_, rfl⟩
        rw [hlo] at hO1 hO2
        rw [hla] at hAa hAb hlen ⊢
        have z1 : (sf != sf) = false := by simp
        have z2 : ((la : Int) != la) = false := by simp
        have z3 : ((lo : Int) != lo) = false := by simp
        have z4 : (la : Int) ≤ 204 := by omega
        replace hAa := Lib.hid hAa
        replace hAb := Lib.hid hAb
        replace hO1 := Lib.hid hO1
        replace hO2 := Lib.hid hO2
        replace hT5 := Lib.hid hT5
        replace hlen := Lib.hid hlen
        replace hla := Lib.hid hla
        replace hlo := Lib.hid hlo
        clear hA hC hA5 hk5 hB5 hT4 hsc4 hl5 hsc
        go_wp2_with (go_at_call 13; (first | refine hO1.out.mono ?_ | refine hO2.out.mono ?_); rintro e w6 ⟨rfl, hw6⟩; replace hw6 := hw6.symm; subst hw6)
        go_loopw [10, 16] (fun x10 x16 wi => ∃ (k : Nat) (h3 : Int), x10 = .int .i64 h3 ∧ x16 = .int .i64 k ∧ k ≤ la ∧ h2 ≤ h3 ∧ h3 ≤ h2 + 8 * k ∧ ∃ z, wi = w5.drewN z) (fun _ x16 _ => la - (intOf x16).toNat)
        case atStart => exact ⟨0, h2, rfl, rfl, by omega, by omega, by omega, 0, rfl⟩
        case round =>
          obtain ⟨k, h3, rfl, rfl, hk, hk0, hk1, z, hz⟩ := hrel
          have g0 : (0 : Int) ≤ k := by omega
          have hcell : ∀ p, wr.cell? p = w5.cell? p := fun p => by rw [hz]; rfl
          have HZ : Hid (∃ z, wr = w5.drewN z) := ⟨z, hz⟩
          clear hz
          by_cases hkl : k < la
          · have g1 : (k : Int) < la := by omega
            obtain ⟨ga, ⟨ap, aa, ao, at_⟩, rfl, hga, r0, r1, r2, r3⟩ := hAa.out k hkl
            obtain ⟨gb', a', rfl, hgb', s0, s1, s2, s3⟩ := hAb.out k hkl
            rw [List.getElem?_map, hga] at hgb'
            injection hgb' with hgb'
            subst hgb'
            have hok := hps.out.1 _ (List.mem_of_getElem? hga)
            obtain ⟨⟨o1, o2⟩, ⟨o3, o4⟩⟩ := hok
            simp only [shA] at r0 r1 r2 r3 s0 s1 s2 s3 o1 o2 o3 o4
            have r0 := (hcell _).trans r0
            have r1 := (hcell _).trans r1
            have r2 := (hcell _).trans r2
            have r3 := (hcell _).trans r3
            have s0 := (hcell _).trans s0
            have s1 := (hcell _).trans s1
            have s2 := (hcell _).trans s2
            have s3 := (hcell _).trans s3
            have f1 : IntKind.i64.wrap (aa + d) = aa + d := by have := d0.out; rw [IntKind.wrap_i64]; omega
            have f2 : IntKind.i64.wrap (at_ + d) = at_ + d := by have := d0.out; rw [IntKind.wrap_i64]; omega
            have f3 : IntKind.i64.wrap (h3 + 8) = h3 + 8 := by have := hlen.out; rw [IntKind.wrap_i64]; omega
            have z5 : (ap != ap) = false := by simp
            have z6 : (ao != ao) = false := by simp
            have z7 : ((aa + d) != (aa + d)) = false := by simp
            have hkm : h3 + 8 ≤ h2 + 8 * ((k + 1 : Nat) : Int) := by omega
            have hkn : h2 ≤ h3 + 8 := by omega
            have hkq : h3 ≤ h2 + 8 * ((k + 1 : Nat) : Int) := by omega
            replace hkm := Lib.hid hkm
            replace hkn := Lib.hid hkn
            replace hkq := Lib.hid hkq
            replace hk0 := Lib.hid hk0
            replace hga := Lib.hid hga
            clear hcell o1 o2 o3 o4 hk1
            by_cases ht : at_ = 0
            · have z8 : (at_ != 0) = false := by simp [ht]
              have z9 : sh d at_ = at_ := by unfold sh; rw [if_pos ht, ht]
              have z10 : (at_ != at_) = false := by simp
              rw [z9] at s3
              replace ht := Lib.hid ht
              clear z9
              cases ap
              · go_wp2_with (fail)
                go_quiet (fail)
                go_wp2_with (fail)
                obtain ⟨z, hz⟩ := HZ.out
                exact ⟨⟨k + 1, h3 + 8, rfl, rfl, by omega, hkn.out, hkm.out, z + nq, by rw [hz, World.drewN_drewN]⟩, by simp [intOf]; omega⟩
              · go_wp2_with (fail)
                go_quiet (fail)
                go_wp2_with (fail)
                obtain ⟨z, hz⟩ := HZ.out
                exact ⟨⟨k + 1, h3, rfl, rfl, by omega, hk0.out, hkq.out, z + nq, by rw [hz, World.drewN_drewN]⟩, by simp [intOf]; omega⟩
            · have z8 : (at_ != 0) = true := by simpa using ht
              have z9 : sh d at_ = at_ + d := by unfold sh; rw [if_neg ht]
              have z10 : ((at_ + d) != (at_ + d)) = false := by simp
              rw [z9] at s3
              replace ht := Lib.hid ht
              clear z9
              cases ap
              · go_wp2_with (fail)
                go_quiet (fail)
                go_wp2_with (fail)
                obtain ⟨z, hz⟩ := HZ.out
                exact ⟨⟨k + 1, h3 + 8, rfl, rfl, by omega, hkn.out, hkm.out, z + nq, by rw [hz, World.drewN_drewN]⟩, by simp [intOf]; omega⟩
              · go_wp2_with (fail)
                go_quiet (fail)
                go_wp2_with (fail)
                obtain ⟨z, hz⟩ := HZ.out
                exact ⟨⟨k + 1, h3, rfl, rfl, by omega, hk0.out, hkq.out, z + nq, by rw [hz, World.drewN_drewN]⟩, by simp [intOf]; omega⟩
          · have e : k = la := by omega
            subst e
            have g1 : ¬ (k : Int) < k := by omega
            obtain ⟨z, hz⟩ := HZ.out
            have hT6 := Lib.hid ((hT5.out.swap.draws z))
            rw [← hz] at hT6
            have hB6 : Below w.heap.size w wr := by rw [hz]; exact below_drewN hBr.out z
            have hkb : h3 ≤ 8 + 3000 * ((j + 1 : Nat) : Int) := by have := hlen.out; omega
            replace hB6 := Lib.hid hB6
            clear hcell HZ hz
            have e5 : IntKind.i64.wrap ((j : Int) + 1) = ((j + 1 : Nat) : Int) := by rw [IntKind.wrap_i64]; omega
            have k8 : 8 ≤ h3 := by omega
            have m8 : max (m + 64) h3 ≤ 8 + 4000 * ((j + 1 : Nat) : Int) := by have := hlen.out; omega
            have m9 : h3 ≤ max (m + 64) h3 := by omega
            have m7 := Lib.hid (hps.out.2.mono (m' := max (m + 64) h3) (by omega))
            replace hkb := Lib.hid hkb
            replace k8 := Lib.hid k8
            replace m8 := Lib.hid m8
            replace m9 := Lib.hid m9
            go_wp2_with (fail)
            exact ⟨⟨j + 1, h3, max (m + 64) h3, _, _, _, _, sL, rfl, rfl, by omega, by omega, k8.out, hkb.out, m9.out, m8.out, hT6.out, m7.out, hB6.out⟩, by simp [intOf]; omega⟩
      · have j3 : decide ((j : Int) < n2) = false := by simp; omega
        obtain ⟨h2, hh2⟩ : ∃ h2, hh = h2 := ⟨_, rfl⟩
        have k0 : hh ≤ h2 := by omega
        have k1 : h2 ≤ hh + 32 := by omega
        replace hT := Lib.hid hT
        replace hP := Lib.hid hP
        replace hBr := Lib.hid hBr
        rw [hh2]
        replace hh2 := Lib.hid hh2
        replace hg := Lib.hid hg
        go_wp2_with (fail)
        obtain ⟨⟨sf, sa, sL⟩, hst⟩ : ∃ st, Go.Proofs.Ytmfffaocmboelaa.step L (row s) h2 = st := ⟨_, rfl⟩
        have hs2 := step_sh d L (row s) h2 m d0.out.1 (by have := d0.out.2; omega) (by omega) (by omega) hP.out
        have hps := step_pos L (row s) h2 (by omega) (by omega) (m + 32) (by omega) (hP.out.mono (by omega))
        have hlen := step_len L (row s) h2 j hT.out.f.ord
        rw [hst] at hs2 hps hlen
        simp only [shS] at hs2 hps hlen
        have e3 : IntKind.i64.wrap (h2 + d) = h2 + d := by have := d0.out; rw [IntKind.wrap_i64]; omega
        replace hs2 := Lib.hid hs2
        replace hps := Lib.hid hps
        refine (tf_word hT.out s h2 hs (by omega) _ hst).mono ?_
        rintro e w4 ⟨va, v4, X4, rfl, hA, hT4, hB4, _⟩
        have hsc4 : w4.cell? ⟨sb, so + j, none⟩ = some (.string s) := ((hBr.out.trans (hB4.mono hzF.out)).cell (p := ⟨sb, so + j, none⟩) hsb).trans hsc
        replace hBr := Lib.hid (hBr.out.trans (hB4.mono hzF.out))
        replace hA := Lib.hid hA
        replace hT4 := Lib.hid hT4
        replace hst := Lib.hid hst
        clear hB4 hT hsc'
        try simp only
        go_wp2_with (fail)
        refine (tf_word hT4.out.swap s (h2 + d) hs (by omega) _ hs2.out).mono ?_
        rintro e w5 ⟨vb, u5, Y5, rfl, hC, hT5, hB5, hk5⟩
        try simp only
        try simp only at hC
        try simp only at hT5
        have hA5 := hk5 _ _ _ _ hA.out
        replace hBr := Lib.hid (hBr.out.trans (hB5.mono hzF.out))
        obtain ⟨Aa, ca, rfl, hAa⟩ := lies_at (lies_row hA5)
        obtain ⟨Ab, cb, rfl, hAb⟩ := lies_at (lies_row hC)
        try simp only at hAa
        try simp only at hAb
        try simp only at hlen
        rw [List.length_map] at hAb ⊢
        have hO1 := open_any hT5.g.fl
        have hO2 := open_any hT5.f.fl
        have hl5 := hT5.len
        rw [List.length_map] at hl5
        rw [hl5.1] at hO2
        rw [hl5.2] at hO1
        obtain ⟨lo, hlo⟩ : ∃ lo, sL.length = lo := ⟨_, rfl⟩
        obtain ⟨la, hla⟩ : ∃ la, sa.length = la := ⟨_, rfl⟩
        rw [hlo] at hO1 hO2
        rw [hla] at hAa hAb hlen ⊢
        have z1 : (sf != sf) = false := by simp
        have z2 : ((la : Int) != la) = false := by simp
        have z3 : ((lo : Int) != lo) = false := by simp
        have z4 : (la : Int) ≤ 204 := by omega
        replace hAa := Lib.hid hAa
        replace hAb := Lib.hid hAb
        replace hO1 := Lib.hid hO1
        replace hO2 := Lib.hid hO2
        replace hT5 := Lib.hid hT5
        replace hlen := Lib.hid hlen
        replace hla := Lib.hid hla
        replace hlo := Lib.hid hlo
        clear hA hC hA5 hk5 hB5 hT4 hsc4 hl5 hsc
        go_wp2_with (go_at_call 13; (first | refine hO1.out.mono ?_ | refine hO2.out.mono ?_); rintro e w6 ⟨rfl, hw6⟩; replace hw6 := hw6.symm; subst hw6)
        go_loopw [10, 16] (fun x10 x16 wi => ∃ (k : Nat) (h3 : Int), x10 = .int .i64 h3 ∧ x16 = .int .i64 k ∧ k ≤ la ∧ h2 ≤ h3 ∧ h3 ≤ h2 + 8 * k ∧ ∃ z, wi = w5.drewN z) (fun _ x16 _ => la - (intOf x16).toNat)
        case atStart => exact ⟨0, h2, rfl, rfl, by omega, by omega, by omega, 0, rfl⟩
        case round =>
          obtain ⟨k, h3, rfl, rfl, hk, hk0, hk1, z, hz⟩ := hrel
          have g0 : (0 : Int) ≤ k := by omega
          have hcell : ∀ p, wr.cell? p = w5.cell? p := fun p => by rw [hz]; rfl
          have HZ : Hid (∃ z, wr = w5.drewN z) := ⟨z, hz⟩
          clear hz
          by_cases hkl : k < la
          · have g1 : (k : Int) < la := by omega
            obtain ⟨ga, ⟨ap, aa, ao, at_⟩, rfl, hga, r0, r1, r2, r3⟩ := hAa.out k hkl
            obtain ⟨gb', a', rfl, hgb', s0, s1, s2, s3⟩ := hAb.out k hkl
            rw [List.getElem?_map, hga] at hgb'
            injection hgb' with hgb'
            subst hgb'
            have hok := hps.out.1 _ (List.mem_of_getElem? hga)
            obtain ⟨⟨o1, o2⟩, ⟨o3, o4⟩⟩ := hok
            simp only [shA] at r0 r1 r2 r3 s0 s1 s2 s3 o1 o2 o3 o4
            have r0 := (hcell _).trans r0
            have r1 := (hcell _).trans r1
            have r2 := (hcell _).trans r2
            have r3 := (hcell _).trans r3
            have s0 := (hcell _).trans s0
            have s1 := (hcell _).trans s1
            have s2 := (hcell _).trans s2
            have s3 := (hcell _).trans s3
            have f1 : IntKind.i64.wrap (aa + d) = aa + d := by have := d0.out; rw [IntKind.wrap_i64]; omega
            have f2 : IntKind.i64.wrap (at_ + d) = at_ + d := by have := d0.out; rw [IntKind.wrap_i64]; omega
            have f3 : IntKind.i64.wrap (h3 + 8) = h3 + 8 := by have := hlen.out; rw [IntKind.wrap_i64]; omega
            have z5 : (ap != ap) = false := by simp
            have z6 : (ao != ao) = false := by simp
            have z7 : ((aa + d) != (aa + d)) = false := by simp
            have hkm : h3 + 8 ≤ h2 + 8 * ((k + 1 : Nat) : Int) := by omega
            have hkn : h2 ≤ h3 + 8 := by omega
            have hkq : h3 ≤ h2 + 8 * ((k + 1 : Nat) : Int) := by omega
            replace hkm := Lib.hid hkm
            replace hkn := Lib.hid hkn
            replace hkq := Lib.hid hkq
            replace hk0 := Lib.hid hk0
            replace hga := Lib.hid hga
            clear hcell o1 o2 o3 o4 hk1
            by_cases ht : at_ = 0
            · have z8 : (at_ != 0) = false := by simp [ht]
              have z9 : sh d at_ = at_ := by unfold sh; rw [if_pos ht, ht]
              have z10 : (at_ != at_) = false := by simp
              rw [z9] at s3
              replace ht := Lib.hid ht
              clear z9
              cases ap
              · go_wp2_with (fail)
                go_quiet (fail)
                go_wp2_with (fail)
                obtain ⟨z, hz⟩ := HZ.out
                exact ⟨⟨k + 1, h3 + 8, rfl, rfl, by omega, hkn.out, hkm.out, z + nq, by rw [hz, World.drewN_drewN]⟩, by simp [intOf]; omega⟩
              · go_wp2_with (fail)
                go_quiet (fail)
                go_wp2_with (fail)
                obtain ⟨z, hz⟩ := HZ.out
                exact ⟨⟨k + 1, h3, rfl, rfl, by omega, hk0.out, hkq.out, z + nq, by rw [hz, World.drewN_drewN]⟩, by simp [intOf]; omega⟩
            · have z8 : (at_ != 0) = true := by simpa using ht
              have z9 : sh d at_ = at_ + d := by unfold sh; rw [if_neg ht]
              have z10 : ((at_ + d) != (at_ + d)) = false := by simp
              rw [z9] at s3
              replace ht := Lib.hid ht
              clear z9
              cases ap
              · go_wp2_with (fail)
                go_quiet (fail)
                go_wp2_with (fail)
                obtain ⟨z, hz⟩ := HZ.out
                exact ⟨⟨k + 1, h3 + 8, rfl, rfl, by omega, hkn.out, hkm.out, z + nq, by rw [hz, World.drewN_drewN]⟩, by simp [intOf]; omega⟩
              · go_wp2_with (fail)
                go_quiet (fail)
                go_wp2_with (fail)
                obtain ⟨z, hz⟩ := HZ.out
                exact ⟨⟨k + 1, h3, rfl, rfl, by omega, hk0.out, hkq.out, z + nq, by rw [hz, World.drewN_drewN]⟩, by simp [intOf]; omega⟩
          · have e : k = la := by omega
            subst e
            have g1 : ¬ (k : Int) < k := by omega
            obtain ⟨z, hz⟩ := HZ.out
            have hT6 := Lib.hid ((hT5.out.swap.draws z))
            rw [← hz] at hT6
            have hB6 : Below w.heap.size w wr := by rw [hz]; exact below_drewN hBr.out z
            have hkb : h3 ≤ 8 + 3000 * ((j + 1 : Nat) : Int) := by have := hlen.out; omega
            replace hB6 := Lib.hid hB6
            clear hcell HZ hz
            have e5 : IntKind.i64.wrap ((j : Int) + 1) = ((j + 1 : Nat) : Int) := by rw [IntKind.wrap_i64]; omega
            have k8 : 8 ≤ h3 := by omega
            have m8 : max (m + 64) h3 ≤ 8 + 4000 * ((j + 1 : Nat) : Int) := by have := hlen.out; omega
            have m9 : h3 ≤ max (m + 64) h3 := by omega
            have m7 := Lib.hid (hps.out.2.mono (m' := max (m + 64) h3) (by omega))
            replace hkb := Lib.hid hkb
            replace k8 := Lib.hid k8
            replace m8 := Lib.hid m8
            replace m9 := Lib.hid m9
            go_wp2_with (fail)
            exact ⟨⟨j + 1, h3, max (m + 64) h3, _, _, _, _, sL, rfl, rfl, by omega, by omega, k8.out, hkb.out, m9.out, m8.out, hT6.out, m7.out, hB6.out⟩, by simp [intOf]; omega⟩
    · have j4 : ¬ (j < n ∧ j < 200) := hj
      replace hBr := Lib.hid hBr
      clear hT hP
      by_cases hjn2 : j < n
      · have j1 : (j : Int) < n := by omega
        have j5 : ¬ (j : Int) < 200 := by omega
        clear hj j4
        go_wp2_with (fail)
        go_returns
        exact ⟨rfl, hBr.out⟩
      · have j1 : ¬ (j : Int) < n := by omega
        clear hj j4
        go_wp2_with (fail)
        go_returns
        exact ⟨rfl, hBr.out⟩
end Go.Proofs.Ytmfffaocmboelaa
