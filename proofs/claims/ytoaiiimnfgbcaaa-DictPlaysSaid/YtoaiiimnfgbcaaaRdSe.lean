import Derived.Test.YtoaiiimnfgbcaaaRdSS
namespace Go.Proofs.Ytoaiiimnfgbcaaa
open Go.RowKit
attribute [local go_sem] Oper.semAt_some
attribute [local go_sem high] run_eqW1 run_eqW2
set_option linter.unusedVariables false
set_option linter.unusedSimpArgs false
/-! chapter 8: law's does: Find -/
theorem run_eqZ1 (w : World) : (Op.equal 34 (.agg #[.string ⟨#[]⟩, .int .i64 0, .int .i64 0, .bool false, .bool false, .bool false]) (.agg #[.string ⟨#[]⟩, .int .i64 0, .int .i64 0, .bool false, .bool false, .bool false])).run Try.prog w = .ok true w := by
  have h := run_eqW1 ⟨#[]⟩ ⟨#[]⟩ 0 0 0 0 false false false false false false w
  rw [show eqW ⟨⟨#[]⟩, 0, 0, false, false, false⟩ ⟨⟨#[]⟩, 0, 0, false, false, false⟩ = true from (eqW_iff _ _).2 rfl] at h
  exact h
theorem run_eqZ2 (w : World) : (Op.equalIn 10000 34 (.agg #[.string ⟨#[]⟩, .int .i64 0, .int .i64 0, .bool false, .bool false, .bool false]) (.agg #[.string ⟨#[]⟩, .int .i64 0, .int .i64 0, .bool false, .bool false, .bool false])).run Try.prog w = .ok true w := by
  have h := run_eqW2 ⟨#[]⟩ ⟨#[]⟩ 0 0 0 0 false false false false false false w
  rw [show eqW ⟨⟨#[]⟩, 0, 0, false, false, false⟩ ⟨⟨#[]⟩, 0, 0, false, false, false⟩ = true from (eqW_iff _ _).2 rfl] at h
  exact h
theorem set6_other {W : World} {g k : Nat} {t : TypeId} {vs : Array Value} {x : Wd} (h : Bk W k t vs) (hn : k ≠ g) : Bk (set6 W g x) k t vs := by
  unfold set6
  exact (((((h.other (p := ⟨g, 0, none⟩) hn _).other (p := ⟨g, 1, none⟩) hn _).other (p := ⟨g, 2, none⟩) hn _).other (p := ⟨g, 3, none⟩) hn _).other (p := ⟨g, 4, none⟩) hn _).other (p := ⟨g, 5, none⟩) hn _
attribute [local go_sem high] run_eqZ1 run_eqZ2
def Fd (F : FuncId) (d : Nat) (nm : ByteArray) (x : Wd) (ok : Bool) (V : World) : Prop := ∀ wr, Below V.heap.size V wr → Calls Try.prog F #[.pointer (some ⟨d, 0, none⟩), .string nm] wr fun e w' => e = .returned (.tuple #[wdV x, .bool ok]) ∧ Below wr.heap.size wr w'
theorem Ss.finds {w V : World} {v p b kk g : Nat} {a c : Ls} {L : Lay} {B : List UInt8} {s : Bool} {O : Array Value} (X : Ss w v p b kk g L B s a c O V) (nm : ByteArray) (hnm : nm.size ≤ maxLen) :
    ∃ (K T : Ls) (xa xk xt : Wd) (oa ok ot : Bool), (V.cell? ⟨v, 1, none⟩ = some (.pointer (some ⟨K.d, 0, none⟩)) ∧ V.cell? ⟨v, 2, none⟩ = some (.pointer (some ⟨T.d, 0, none⟩)) ∧ V.cell? ⟨v, 3, none⟩ = some (.pointer (some ⟨K.q, 0, none⟩)) ∧ V.cell? ⟨v, 4, none⟩ = some (.pointer (some ⟨T.q, 0, none⟩))) ∧
      (Fd 11 a.d nm xa oa V ∧ Fd 50 a.q nm xa oa V ∧ Fd 11 K.d nm xk ok V ∧ Fd 50 K.q nm xk ok V ∧ Fd 11 T.d nm xt ot V ∧ Fd 50 T.q nm xt ot V) ∧ (ok = false → xk = wd0) := by
  have hf : ∀ {A C : Ls}, Al V p b L B s A C → Fd 11 A.d nm ((fndX B A nm).getD wd0) (fndX B A nm).isSome V ∧ Fd 50 A.q nm ((fndX B A nm).getD wd0) (fndX B A nm).isSome V := fun H => ⟨fun wr hb => pr_find (H.bel hb) nm hnm, fun wr hb => pr_rfind (H.bel hb) nm hnm⟩
  have hn : ∀ A : Ls, (fndX B A nm).isSome = false → (fndX B A nm).getD wd0 = wd0 := fun A h => by
    cases hx : fndX B A nm
    · rfl
    · rw [hx] at h; cases h
  have ha := hf X.al
  have hc := hf X.al.swap
  obtain ⟨x0, x1, y0, y1, ⟨rfl, k⟩ | ⟨rfl, k⟩⟩ := X.so
  · exact ⟨a, c, _, _, _, _, _, _, ⟨k.wl.cell 1, k.wl.cell 2, k.wl.cell 3, k.wl.cell 4⟩, ⟨ha.1, ha.2, ha.1, ha.2, hc.1, hc.2⟩, hn a⟩
  · exact ⟨c, a, _, _, _, _, _, _, ⟨k.wl.cell 1, k.wl.cell 2, k.wl.cell 3, k.wl.cell 4⟩, ⟨ha.1, ha.2, hc.1, hc.2, ha.1, ha.2⟩, hn c⟩
set_option maxHeartbeats 4000000 in
set_option maxRecDepth 100000 in
theorem does_11 {w W : World} {v p b kk : Nat} {a c : Ls} {L : Lay} {B : List UInt8} {s : Bool} (H : Al W p b L B s a c) (S : So w v p b kk a c W) (of kd N : Int) (ch : UInt8) (nm : ByteArray)
    (hof : -9223372036854775808 ≤ of ∧ of ≤ 9223372036854775807) (hkd : -9223372036854775808 ≤ kd ∧ kd ≤ 9223372036854775807) (hN : -9223372036854775808 ≤ N ∧ N ≤ 9223372036854775807) (hnm : nm.size ≤ maxLen) (hk : pickN of 2 = kk) (hkk : pickN kd 16 = 11) :
    Calls Try.prog 22 #[.pointer (some ⟨v, 0, none⟩), .agg #[.int .i64 of, .int .i64 kd, .int .i64 N, .int .u8 (ch.toNat : Int), .string nm]] W fun e W' => e = .returned (.bool true) ∧ Dn w v p b kk L a c W' := by
  have hp1 := fun w => pick_any of 2 w hof.1 hof.2 (by decide) (by decide)
  have hp2 := fun w => pick_any kd 16 w hkd.1 hkd.2 (by decide) (by decide)
  have e2 : (2 : Int).toNat = 2 := rfl
  have e16 : (16 : Int).toNat = 16 := rfl
  simp only [e2, e16, hk, hkk] at hp1 hp2
  clear e2 e16
  replace hp1 := Lib.hid hp1
  replace hp2 := Lib.hid hp2
  have hk2 := S.two
  have X := Ss.enter H S #[.int .i64 of, .int .i64 kd, .int .i64 N, .int .u8 (ch.toNat : Int), .string nm]
  have hgl : W.heap.size < (W.alloc (.cells #[.int .i64 of, .int .i64 kd, .int .i64 N, .int .u8 (ch.toNat : Int), .string nm] 58)).heap.size := X.bx.lt
  obtain ⟨V, hV⟩ : ∃ V, W.alloc (.cells #[.int .i64 of, .int .i64 kd, .int .i64 N, .int .u8 (ch.toNat : Int), .string nm] 58) = V := ⟨_, rfl⟩
  obtain ⟨g, hg⟩ : ∃ g, W.heap.size = g := ⟨_, rfl⟩
  rw [hV, hg] at X
  have c0 := X.so.c0
  have c1 := X.so.c1
  have c3 := X.so.c3
  have o0 := X.bx.cell 0
  have o1 := X.bx.cell 1
  have o2 := X.bx.cell 2
  have o3 := X.bx.cell 3
  have o4 := X.bx.cell 4
  simp at o0 o1 o2 o3 o4
  have k0 : (0 : Int) ≤ kk := by omega
  have k1 : (kk : Int) < 2 := by omega
  clear H S hgl hof hkd
  replace X := Lib.hid X
  replace hk2 := Lib.hid hk2
  replace hk := Lib.hid hk
  replace hkk := Lib.hid hkk
  go_enter Try.func22, Try.ntmps22
  go_wp2_with (fail)
  clear hV hg
  refine (hp1.out _).mono ?_
  rintro e w1 ⟨rfl, hw1⟩
  have hw1 := hw1.symm
  subst hw1
  go_wp2_with (fail)
  refine (hp2.out _).mono ?_
  rintro e w1 ⟨rfl, hw1⟩
  have hw1 := hw1.symm
  subst hw1
  obtain ⟨Kl, Tl, xa, xk, xt, oa, ok, ot, ⟨d1, d2, d3, d4⟩, ⟨fa, ra, fk, rk, ft, rt⟩, hno⟩ := X.out.finds nm hnm
  have hcl : ∀ W', Below V.heap.size V W' → W'.cell? ⟨g, 4, none⟩ = some (.string nm) ∧ W'.cell? ⟨v, 1, none⟩ = some (.pointer (some ⟨Kl.d, 0, none⟩)) ∧ W'.cell? ⟨v, 2, none⟩ = some (.pointer (some ⟨Tl.d, 0, none⟩)) ∧ W'.cell? ⟨v, 3, none⟩ = some (.pointer (some ⟨Kl.q, 0, none⟩)) ∧ W'.cell? ⟨v, 4, none⟩ = some (.pointer (some ⟨Tl.q, 0, none⟩)) := fun W' hb => by
    obtain ⟨vs, hv⟩ := X.out.so.wl
    exact ⟨(hb.cell (p := ⟨g, 4, none⟩) X.out.bx.lt).trans o4, (hb.cell (p := ⟨v, 1, none⟩) hv.lt).trans d1, (hb.cell (p := ⟨v, 2, none⟩) hv.lt).trans d2, (hb.cell (p := ⟨v, 3, none⟩) hv.lt).trans d3, (hb.cell (p := ⟨v, 4, none⟩) hv.lt).trans d4⟩
  have hD : ∀ (wr : World) (vb : Nat), Bk wr vb 30 #[.pointer (some ⟨Tl.d, 0, none⟩), .pointer (some ⟨Kl.d, 0, none⟩)] → Below V.heap.size V wr → Calls Try.prog 51 #[.string nm, .slice (some ⟨vb, 0, none⟩) 2 2] wr fun e w' => e = .returned (.tuple #[wdV (if ot then xt else xk), .bool (ot || ok)]) ∧ Below wr.heap.size wr w' := fun wr vb hv hb => by
    refine (dfind_two nm vb Tl.d Kl.d xt xk ot ok wr hv (fun w2 h2 => ft w2 (hb.trans (h2.mono hb.size))) (fun w2 h2 => fk w2 (hb.trans (h2.mono hb.size)))).mono ?_
    rintro e w' ⟨rfl, h2⟩
    refine ⟨?_, h2⟩
    cases ot
    · cases ok
      · rw [hno rfl]; rfl
      · rfl
    · rfl
  obtain ⟨x, hx⟩ : ∃ x, (if ot then xt else xk) = x := ⟨_, rfl⟩
  obtain ⟨o, ho⟩ : ∃ o, (ot || ok) = o := ⟨_, rfl⟩
  rw [hx, ho] at hD
  obtain ⟨x1, x2, x3, x4, x5, x6⟩ := x
  obtain ⟨a1, a2, a3, a4, a5, a6⟩ := xa
  unfold Fd at *
  simp only [wdV] at fa ra hD
  have O8 : So w v p b kk a c V ∧ Al V p b L B s a c := ⟨X.out.so, X.out.al⟩
  replace O8 := Lib.hid O8
  replace fa := Lib.hid fa
  replace ra := Lib.hid ra
  replace rk := Lib.hid rk
  replace rt := Lib.hid rt
  replace hno := Lib.hid hno
  replace hD := Lib.hid hD
  replace hcl := Lib.hid hcl
  replace hx := Lib.hid hx
  replace ho := Lib.hid ho
  clear hk hkk hk2 c0 c1 c3 o0 o1 o2 o3 d1 d2 d3 d4 X hp1 hp2 ft fk
  go_wp2_with (fail)
  refine (fa.out V (Below.refl _ _)).mono ?_
  rintro e w1 ⟨rfl, hb1⟩
  have b1 := Bk.fresh w1 34 #[.string a1, .int .i64 a2, .int .i64 a3, .bool a4, .bool a5, .bool a6]
  replace hb1 := hb1.alloc hb1.size (.cells #[.string a1, .int .i64 a2, .int .i64 a3, .bool a4, .bool a5, .bool a6] 34)
  obtain ⟨o4, -⟩ := hcl.out _ hb1
  replace b1 := Lib.hid b1
  replace hb1 := Lib.hid hb1
  clear fa
  go_upto_region 34 with (fail)
  obtain ⟨V1, hV1⟩ : ∃ V1, w1.alloc (.cells #[.string a1, .int .i64 a2, .int .i64 a3, .bool a4, .bool a5, .bool a6] 34) = V1 := ⟨_, rfl⟩
  obtain ⟨e1, he1⟩ : ∃ e1, w1.heap.size = e1 := ⟨_, rfl⟩
  rw [hV1] at b1 hb1 o4 ⊢
  rw [he1] at b1 ⊢
  clear hV1 he1
  go_wp2_with (fail)
  refine (ra.out V1 hb1.out).mono ?_
  rintro e w2 ⟨rfl, hb2⟩
  have b2 := Bk.fresh w2 34 #[.string a1, .int .i64 a2, .int .i64 a3, .bool a4, .bool a5, .bool a6]
  have hb2' := hb2.alloc hb2.size (.cells #[.string a1, .int .i64 a2, .int .i64 a3, .bool a4, .bool a5, .bool a6] 34)
  replace b1 := b1.out.kept hb2' b1.out.lt
  replace hb2 := hb1.out.trans (hb2'.mono hb1.out.size)
  replace b1 := Lib.hid b1
  replace b2 := Lib.hid b2
  replace hb2 := Lib.hid hb2
  clear ra hb1 hb2' o4
  go_upto_region 35 with (fail)
  obtain ⟨V2, hV2⟩ : ∃ V2, w2.alloc (.cells #[.string a1, .int .i64 a2, .int .i64 a3, .bool a4, .bool a5, .bool a6] 34) = V2 := ⟨_, rfl⟩
  obtain ⟨e2, he2⟩ : ∃ e2, w2.heap.size = e2 := ⟨_, rfl⟩
  rw [hV2] at b1 hb2 b2 ⊢
  rw [he2] at b2 ⊢
  clear hV2 he2
  obtain ⟨o4, d1, d2, -⟩ := hcl.out _ hb2.out
  go_cut [16, 17] from 27 to 388 (fun s16 s17 wx => ∃ F : Nat, s16 = .pointer (some ⟨F, 0, none⟩) ∧ s17 = .bool o ∧ Hid (Bk wx F 34 #[.string x1, .int .i64 x2, .int .i64 x3, .bool x4, .bool x5, .bool x6] ∧ Below V2.heap.size V2 wx))
  case first =>
    as_aux_lemma =>
      refine wp_region_held_drew (S := fun W_ => Below V.heap.size V W_) (by kernel_rfl) hb2.out.drew (fun hHeld => ?_)
      refine wpAnyH_take (i := 0) (oi := { dst := some 163, op := _, type := _, pos := _, after := _, guard := _ }) (v := ?_) rfl (by kernel_rfl) (by kernel_rfl) (by kernel_rfl) (fun _ _ _ h => h) (Or.inl ⟨by rfl, ?_⟩) (by assumption) ?_
      rotate_left
      focus ((intro w hSw); (try dsimp only at hSw); (obtain ⟨q4, q1, q2, q3, q5⟩ := hcl.out _ hSw); go_simp; (try (with_reducible rfl)))
      try simp only [Act.put, List.setIfInBounds_toArray, List.set_cons_zero, List.set_cons_succ]
      refine wpAnyH_take (i := 1) (oi := { dst := some 164, op := _, type := _, pos := _, after := _, guard := _ }) (v := ?_) rfl (by kernel_rfl) (by kernel_rfl) (by kernel_rfl) (fun _ _ _ h => h) (Or.inl ⟨by rfl, ?_⟩) (by assumption) ?_
      rotate_left
      focus ((intro w hSw); (try dsimp only at hSw); (obtain ⟨q4, q1, q2, q3, q5⟩ := hcl.out _ hSw); go_simp; (try (with_reducible rfl)))
      try simp only [Act.put, List.setIfInBounds_toArray, List.set_cons_zero, List.set_cons_succ]
      refine wpAnyH_take (i := 2) (oi := { dst := some 165, op := _, type := _, pos := _, after := _, guard := _ }) (v := ?_) rfl (by kernel_rfl) (by kernel_rfl) (by kernel_rfl) (fun _ _ _ h => h) (Or.inl ⟨by rfl, ?_⟩) (by assumption) ?_
      rotate_left
      focus ((intro w hSw); (try dsimp only at hSw); (obtain ⟨q4, q1, q2, q3, q5⟩ := hcl.out _ hSw); go_simp; (try (with_reducible rfl)))
      try simp only [Act.put, List.setIfInBounds_toArray, List.set_cons_zero, List.set_cons_succ]
      refine wpAnyH_take (i := 3) (oi := { dst := some 166, op := _, type := _, pos := _, after := _, guard := _ }) (v := ?_) rfl (by kernel_rfl) (by kernel_rfl) (by kernel_rfl) (fun _ _ _ h => h) (Or.inl ⟨by rfl, ?_⟩) (by assumption) ?_
      rotate_left
      focus ((intro w hSw); (try dsimp only at hSw); (obtain ⟨q4, q1, q2, q3, q5⟩ := hcl.out _ hSw); go_simp; (try (with_reducible rfl)))
      try simp only [Act.put, List.setIfInBounds_toArray, List.set_cons_zero, List.set_cons_succ]
      refine wpAnyH_take (i := 4) (oi := { dst := some 167, op := _, type := _, pos := _, after := _, guard := _ }) (v := ?_) rfl (by kernel_rfl) (by kernel_rfl) (by kernel_rfl) (fun _ _ _ h => h) (Or.inl ⟨by rfl, ?_⟩) (by assumption) ?_
      rotate_left
      focus ((intro w hSw); (try dsimp only at hSw); (obtain ⟨q4, q1, q2, q3, q5⟩ := hcl.out _ hSw); go_simp; (try (with_reducible rfl)))
      try simp only [Act.put, List.setIfInBounds_toArray, List.set_cons_zero, List.set_cons_succ]
      refine wpAnyH_take (i := 5) (oi := { dst := some 168, op := _, type := _, pos := _, after := _, guard := _ }) (v := ?_) rfl (by kernel_rfl) (by kernel_rfl) (by kernel_rfl) (fun _ _ _ h => h) (Or.inl ⟨by rfl, ?_⟩) (by assumption) ?_
      rotate_left
      focus ((intro w hSw); (try dsimp only at hSw); (obtain ⟨q4, q1, q2, q3, q5⟩ := hcl.out _ hSw); go_simp; (try (with_reducible rfl)))
      try simp only [Act.put, List.setIfInBounds_toArray, List.set_cons_zero, List.set_cons_succ]
      refine wpAnyH_take (i := 6) (oi := { dst := some 169, op := _, type := _, pos := _, after := _, guard := _ }) (v := ?_) rfl (by kernel_rfl) (by kernel_rfl) (by kernel_rfl) (fun _ _ _ h => h) (Or.inl ⟨by rfl, ?_⟩) (by assumption) ?_
      rotate_left
      focus ((intro w hSw); (try dsimp only at hSw); (obtain ⟨q4, q1, q2, q3, q5⟩ := hcl.out _ hSw); go_simp; (try (with_reducible rfl)))
      try simp only [Act.put, List.setIfInBounds_toArray, List.set_cons_zero, List.set_cons_succ]
      refine wpAnyH_take (i := 7) (oi := { dst := some 170, op := _, type := _, pos := _, after := _, guard := _ }) (v := ?_) rfl (by kernel_rfl) (by kernel_rfl) (by kernel_rfl) (fun _ _ _ h => h) (Or.inl ⟨by rfl, ?_⟩) (by assumption) ?_
      rotate_left
      focus ((intro w hSw); (try dsimp only at hSw); (obtain ⟨q4, q1, q2, q3, q5⟩ := hcl.out _ hSw); go_simp; (try (with_reducible rfl)))
      try simp only [Act.put, List.setIfInBounds_toArray, List.set_cons_zero, List.set_cons_succ]
      refine wpAnyH_take (i := 8) (oi := { dst := some 171, op := _, type := _, pos := _, after := _, guard := _ }) (v := ?_) rfl (by kernel_rfl) (by kernel_rfl) (by kernel_rfl) (fun _ _ _ h => h) (Or.inl ⟨by rfl, ?_⟩) (by assumption) ?_
      rotate_left
      focus ((intro w hSw); (try dsimp only at hSw); (obtain ⟨q4, q1, q2, q3, q5⟩ := hcl.out _ hSw); go_simp; (try (with_reducible rfl)))
      try simp only [Act.put, List.setIfInBounds_toArray, List.set_cons_zero, List.set_cons_succ]
      refine wpAnyH_take (i := 9) (oi := { dst := some 172, op := _, type := _, pos := _, after := _, guard := _ }) (v := ?_) rfl (by kernel_rfl) (by kernel_rfl) (by kernel_rfl) (fun _ _ _ h => h) (Or.inl ⟨by rfl, ?_⟩) (by assumption) ?_
      rotate_left
      focus ((intro w hSw); (try dsimp only at hSw); (obtain ⟨q4, q1, q2, q3, q5⟩ := hcl.out _ hSw); go_simp; (try (with_reducible rfl)))
      try simp only [Act.put, List.setIfInBounds_toArray, List.set_cons_zero, List.set_cons_succ]
      refine wpAnyH_take (i := 10) (oi := { dst := some 173, op := _, type := _, pos := _, after := _, guard := _ }) (v := ?_) rfl (by kernel_rfl) (by kernel_rfl) (by kernel_rfl) (fun _ _ _ h => h) (Or.inl ⟨by rfl, ?_⟩) (by assumption) ?_
      rotate_left
      focus ((intro w hSw); (try dsimp only at hSw); (obtain ⟨q4, q1, q2, q3, q5⟩ := hcl.out _ hSw); go_simp; (try (with_reducible rfl)))
      try simp only [Act.put, List.setIfInBounds_toArray, List.set_cons_zero, List.set_cons_succ]
      refine wpAnyH_take (i := 11) (oi := { dst := some 174, op := _, type := _, pos := _, after := _, guard := _ }) (v := ?_) rfl (by kernel_rfl) (by kernel_rfl) (by kernel_rfl) (fun _ _ _ h => h) (Or.inl ⟨by rfl, ?_⟩) (by assumption) ?_
      rotate_left
      focus ((intro w hSw); (try dsimp only at hSw); (obtain ⟨q4, q1, q2, q3, q5⟩ := hcl.out _ hSw); go_simp; (try (with_reducible rfl)))
      try simp only [Act.put, List.setIfInBounds_toArray, List.set_cons_zero, List.set_cons_succ]
      have v0 := (Below.refl V2.heap.size V2)
      have pA := (v0.alloc (Nat.le_refl _) (.cells #[.pointer (some ⟨Tl.d, 0, none⟩), .pointer (some ⟨Kl.d, 0, none⟩)] 30)).drew
      have pB := (v0.alloc (Nat.le_refl _) (.cells #[.string ⟨#[]⟩, .int .i64 0, .int .i64 0, .bool false, .bool false, .bool false] 34)).drew
      have sA := (Bk.fresh V2 30 #[.pointer (some ⟨Tl.d, 0, none⟩), .pointer (some ⟨Kl.d, 0, none⟩)]).draw
      have sB := (Bk.fresh V2 34 #[.string ⟨#[]⟩, .int .i64 0, .int .i64 0, .bool false, .bool false, .bool false]).draw
      clear v0
      obtain ⟨WA, hWA⟩ : ∃ WA, (V2.alloc (.cells #[.pointer (some ⟨Tl.d, 0, none⟩), .pointer (some ⟨Kl.d, 0, none⟩)] 30)).drew = WA := ⟨_, rfl⟩
      obtain ⟨WB, hWB⟩ : ∃ WA, (V2.alloc (.cells #[.string ⟨#[]⟩, .int .i64 0, .int .i64 0, .bool false, .bool false, .bool false] 34)).drew = WA := ⟨_, rfl⟩
      obtain ⟨zz, hzz⟩ : ∃ zz, V2.heap.size = zz := ⟨_, rfl⟩
      rw [hWA] at pA sA
      rw [hWB] at pB sB
      rw [hzz] at sA sB
      replace hWA := Lib.hid hWA
      replace hWB := Lib.hid hWB
      replace hzz := Lib.hid hzz
      replace pA := Lib.hid pA
      replace pB := Lib.hid pB
      replace sA := Lib.hid sA
      replace sB := Lib.hid sB
      refine wpAnyH_ready (rs := [12, 17]) (by kernel_rfl) (by simp) ?_
      refine AllReadyH.cons (o := { dst := some 175, op := _, type := _, pos := _, after := _, guard := _ }) rfl (fun K hK => ?_) (AllReadyH.cons (o := { dst := some 16, op := _, type := _, pos := _, after := _, guard := _ }) rfl (fun K hK => ?_) AllReadyH.nil)
      · go_simp
        rw [hWA.out, hzz.out]
        have hA := hb2.out.trans (pA.out.mono hb2.out.size)
        refine hK _ _ hA (fun hHeld => ?_)
        clear hK K
        try simp only [Act.put, List.setIfInBounds_toArray, List.set_cons_zero, List.set_cons_succ]
        refine wpAnyH_ready (rs := [13, 17]) (by kernel_rfl) (by simp) ?_
        refine AllReadyH.cons (o := { dst := some 176, op := _, type := _, pos := _, after := _, guard := _ }) rfl (fun K hK => ?_) (AllReadyH.cons (o := { dst := some 16, op := _, type := _, pos := _, after := _, guard := _ }) rfl (fun K hK => ?_) AllReadyH.nil)
        · go_simp
          refine (hD.out _ _ sA.out hA).mono ?_
          rintro e w3 ⟨rfl, hb3⟩
          have hC := hA.trans (hb3.mono hA.size)
          have vC := pA.out.trans (hb3.mono pA.out.size)
          dsimp only
          refine hK _ _ hC (fun hHeld => ?_)
          clear hK K
          try simp only [Act.put, List.setIfInBounds_toArray, List.set_cons_zero, List.set_cons_succ]
          refine wpAnyH_take (i := 14) (oi := { dst := some 162, op := _, type := _, pos := _, after := _, guard := _ }) (v := ?_) rfl (by kernel_rfl) (by kernel_rfl) (by kernel_rfl) (fun _ _ _ h => h) (Or.inl ⟨by rfl, ?_⟩) (by assumption) ?_
          rotate_left
          focus ((intro w hSw); (try dsimp only at hSw); (obtain ⟨q4, q1, q2, q3, q5⟩ := hcl.out _ hSw); go_simp; (try (with_reducible rfl)))
          try simp only [Act.put, List.setIfInBounds_toArray, List.set_cons_zero, List.set_cons_succ]
          refine wpAnyH_take (i := 15) (oi := { dst := some 177, op := _, type := _, pos := _, after := _, guard := _ }) (v := ?_) rfl (by kernel_rfl) (by kernel_rfl) (by kernel_rfl) (fun _ _ _ h => h) (Or.inl ⟨by rfl, ?_⟩) (by assumption) ?_
          rotate_left
          focus ((intro w hSw); (try dsimp only at hSw); (obtain ⟨q4, q1, q2, q3, q5⟩ := hcl.out _ hSw); go_simp; (try (with_reducible rfl)))
          try simp only [Act.put, List.setIfInBounds_toArray, List.set_cons_zero, List.set_cons_succ]
          refine wpAnyH_take (i := 16) (oi := { dst := some 178, op := _, type := _, pos := _, after := _, guard := _ }) (v := ?_) rfl (by kernel_rfl) (by kernel_rfl) (by kernel_rfl) (fun _ _ _ h => h) (Or.inl ⟨by rfl, ?_⟩) (by assumption) ?_
          rotate_left
          focus ((intro w hSw); (try dsimp only at hSw); (obtain ⟨q4, q1, q2, q3, q5⟩ := hcl.out _ hSw); go_simp; (try (with_reducible rfl)))
          try simp only [Act.put, List.setIfInBounds_toArray, List.set_cons_zero, List.set_cons_succ]
          refine wpAnyH_ready (rs := [17]) (by kernel_rfl) (by simp) ?_
          refine AllReadyH.cons (o := { dst := some 16, op := _, type := _, pos := _, after := _, guard := _ }) rfl (fun K hK => ?_) AllReadyH.nil
          go_simp
          have hE := hC.alloc hC.size (.cells #[.string ⟨#[]⟩, .int .i64 0, .int .i64 0, .bool false, .bool false, .bool false] 34)
          have vE := vC.alloc vC.size (.cells #[.string ⟨#[]⟩, .int .i64 0, .int .i64 0, .bool false, .bool false, .bool false] 34)
          have bk := Bk.fresh w3 34 #[.string ⟨#[]⟩, .int .i64 0, .int .i64 0, .bool false, .bool false, .bool false]
          have hge := vC.size
          obtain ⟨W4, hW4⟩ : ∃ W4, w3.alloc (.cells #[.string ⟨#[]⟩, .int .i64 0, .int .i64 0, .bool false, .bool false, .bool false] 34) = W4 := ⟨_, rfl⟩
          obtain ⟨zb, hzb⟩ : ∃ zb, w3.heap.size = zb := ⟨_, rfl⟩
          rw [hW4] at hE vE bk ⊢
          rw [hzb] at bk hge ⊢
          clear hW4 hzb
          refine hK _ _ hE (fun hHeld => ?_)
          clear hK K
          try simp only [Act.put, List.setIfInBounds_toArray, List.set_cons_zero, List.set_cons_succ]
          have l0 := bk.cell 0
          have l1 := bk.cell 1
          have l2 := bk.cell 2
          have l3 := bk.cell 3
          have l4 := bk.cell 4
          have l5 := bk.cell 5
          simp at l0 l1 l2 l3 l4 l5
          have f0 := bk.free 0
          have f1 := bk.free 1
          have f2 := bk.free 2
          have f3 := bk.free 3
          have f4 := bk.free 4
          have f5 := bk.free 5
          have hF := set6_below (x := ⟨x1, x2, x3, x4, x5, x6⟩) (g := zb) hE (Nat.le_trans hb2.out.size hge)
          have vF := set6_below (x := ⟨x1, x2, x3, x4, x5, x6⟩) (g := zb) vE hge
          have kF := set6_bk (y := ⟨x1, x2, x3, x4, x5, x6⟩) (x := wd0) bk
          unfold set6 at hF vF kF
          replace hF := Lib.hid hF
          replace vF := Lib.hid vF
          replace kF := Lib.hid kF
          refine wpAnyH_ready (rs := [18]) (by kernel_rfl) (by simp) ?_
          refine AllReadyH.cons (o := { dst := none, op := _, type := _, pos := _, after := _, guard := _ }) rfl (fun K hK => ?_) AllReadyH.nil
          go_simp
          refine hK _ _ hF.out (fun hHeld => ?_)
          clear hK K
          try simp only [Act.put, List.setIfInBounds_toArray, List.set_cons_zero, List.set_cons_succ]
          refine wpAnyH_take (i := 19) (oi := { dst := some 17, op := _, type := _, pos := _, after := _, guard := _ }) (v := ?_) rfl (by kernel_rfl) (by kernel_rfl) (by kernel_rfl) (fun _ _ _ h => h) (Or.inl ⟨by rfl, ?_⟩) (by assumption) ?_
          rotate_left
          focus ((intro w hSw); (try dsimp only at hSw); (obtain ⟨q4, q1, q2, q3, q5⟩ := hcl.out _ hSw); go_simp; (try (with_reducible rfl)))
          try simp only [Act.put, List.setIfInBounds_toArray, List.set_cons_zero, List.set_cons_succ]
          refine wpAnyH_done (by kernel_rfl) ?_ _
          go_wp2_with (fail)
          go_meet
          exact ⟨_, rfl, rfl, Lib.hid ⟨kF.out, vF.out⟩⟩
        · go_simp
          have hE := hA.alloc hA.size (.cells #[.string ⟨#[]⟩, .int .i64 0, .int .i64 0, .bool false, .bool false, .bool false] 34)
          have vE := pA.out.alloc pA.out.size (.cells #[.string ⟨#[]⟩, .int .i64 0, .int .i64 0, .bool false, .bool false, .bool false] 34)
          have bk := Bk.fresh WA 34 #[.string ⟨#[]⟩, .int .i64 0, .int .i64 0, .bool false, .bool false, .bool false]
          have sE := sA.out.past (.cells #[.string ⟨#[]⟩, .int .i64 0, .int .i64 0, .bool false, .bool false, .bool false] 34)
          have hge := pA.out.size
          obtain ⟨W4, hW4⟩ : ∃ W4, WA.alloc (.cells #[.string ⟨#[]⟩, .int .i64 0, .int .i64 0, .bool false, .bool false, .bool false] 34) = W4 := ⟨_, rfl⟩
          obtain ⟨zb, hzb⟩ : ∃ zb, WA.heap.size = zb := ⟨_, rfl⟩
          rw [hW4] at hE vE bk sE ⊢
          rw [hzb] at bk hge ⊢
          clear hW4 hzb
          refine hK _ _ hE (fun hHeld => ?_)
          clear hK K
          try simp only [Act.put, List.setIfInBounds_toArray, List.set_cons_zero, List.set_cons_succ]
          refine wpAnyH_ready (rs := [13]) (by kernel_rfl) (by simp) ?_
          refine AllReadyH.cons (o := { dst := some 176, op := _, type := _, pos := _, after := _, guard := _ }) rfl (fun K hK => ?_) AllReadyH.nil
          go_simp
          refine (hD.out _ _ sE hE).mono ?_
          rintro e w3 ⟨rfl, hb3⟩
          replace vE := vE.trans (hb3.mono vE.size)
          replace bk := bk.kept hb3 bk.lt
          replace hE := hE.trans (hb3.mono hE.size)
          dsimp only
          refine hK _ _ hE (fun hHeld => ?_)
          clear hK K
          try simp only [Act.put, List.setIfInBounds_toArray, List.set_cons_zero, List.set_cons_succ]
          refine wpAnyH_take (i := 14) (oi := { dst := some 162, op := _, type := _, pos := _, after := _, guard := _ }) (v := ?_) rfl (by kernel_rfl) (by kernel_rfl) (by kernel_rfl) (fun _ _ _ h => h) (Or.inl ⟨by rfl, ?_⟩) (by assumption) ?_
          rotate_left
          focus ((intro w hSw); (try dsimp only at hSw); (obtain ⟨q4, q1, q2, q3, q5⟩ := hcl.out _ hSw); go_simp; (try (with_reducible rfl)))
          try simp only [Act.put, List.setIfInBounds_toArray, List.set_cons_zero, List.set_cons_succ]
          refine wpAnyH_take (i := 15) (oi := { dst := some 177, op := _, type := _, pos := _, after := _, guard := _ }) (v := ?_) rfl (by kernel_rfl) (by kernel_rfl) (by kernel_rfl) (fun _ _ _ h => h) (Or.inl ⟨by rfl, ?_⟩) (by assumption) ?_
          rotate_left
          focus ((intro w hSw); (try dsimp only at hSw); (obtain ⟨q4, q1, q2, q3, q5⟩ := hcl.out _ hSw); go_simp; (try (with_reducible rfl)))
          try simp only [Act.put, List.setIfInBounds_toArray, List.set_cons_zero, List.set_cons_succ]
          refine wpAnyH_take (i := 16) (oi := { dst := some 178, op := _, type := _, pos := _, after := _, guard := _ }) (v := ?_) rfl (by kernel_rfl) (by kernel_rfl) (by kernel_rfl) (fun _ _ _ h => h) (Or.inl ⟨by rfl, ?_⟩) (by assumption) ?_
          rotate_left
          focus ((intro w hSw); (try dsimp only at hSw); (obtain ⟨q4, q1, q2, q3, q5⟩ := hcl.out _ hSw); go_simp; (try (with_reducible rfl)))
          try simp only [Act.put, List.setIfInBounds_toArray, List.set_cons_zero, List.set_cons_succ]
          have l0 := bk.cell 0
          have l1 := bk.cell 1
          have l2 := bk.cell 2
          have l3 := bk.cell 3
          have l4 := bk.cell 4
          have l5 := bk.cell 5
          simp at l0 l1 l2 l3 l4 l5
          have f0 := bk.free 0
          have f1 := bk.free 1
          have f2 := bk.free 2
          have f3 := bk.free 3
          have f4 := bk.free 4
          have f5 := bk.free 5
          have hF := set6_below (x := ⟨x1, x2, x3, x4, x5, x6⟩) (g := zb) hE (Nat.le_trans hb2.out.size hge)
          have vF := set6_below (x := ⟨x1, x2, x3, x4, x5, x6⟩) (g := zb) vE hge
          have kF := set6_bk (y := ⟨x1, x2, x3, x4, x5, x6⟩) (x := wd0) bk
          unfold set6 at hF vF kF
          replace hF := Lib.hid hF
          replace vF := Lib.hid vF
          replace kF := Lib.hid kF
          refine wpAnyH_ready (rs := [18]) (by kernel_rfl) (by simp) ?_
          refine AllReadyH.cons (o := { dst := none, op := _, type := _, pos := _, after := _, guard := _ }) rfl (fun K hK => ?_) AllReadyH.nil
          go_simp
          refine hK _ _ hF.out (fun hHeld => ?_)
          clear hK K
          try simp only [Act.put, List.setIfInBounds_toArray, List.set_cons_zero, List.set_cons_succ]
          refine wpAnyH_take (i := 19) (oi := { dst := some 17, op := _, type := _, pos := _, after := _, guard := _ }) (v := ?_) rfl (by kernel_rfl) (by kernel_rfl) (by kernel_rfl) (fun _ _ _ h => h) (Or.inl ⟨by rfl, ?_⟩) (by assumption) ?_
          rotate_left
          focus ((intro w hSw); (try dsimp only at hSw); (obtain ⟨q4, q1, q2, q3, q5⟩ := hcl.out _ hSw); go_simp; (try (with_reducible rfl)))
          try simp only [Act.put, List.setIfInBounds_toArray, List.set_cons_zero, List.set_cons_succ]
          refine wpAnyH_done (by kernel_rfl) ?_ _
          go_wp2_with (fail)
          go_meet
          exact ⟨_, rfl, rfl, Lib.hid ⟨kF.out, vF.out⟩⟩
      · go_simp
        rw [hWB.out, hzz.out]
        have hB := hb2.out.trans (pB.out.mono hb2.out.size)
        refine hK _ _ hB (fun hHeld => ?_)
        clear hK K
        try simp only [Act.put, List.setIfInBounds_toArray, List.set_cons_zero, List.set_cons_succ]
        refine wpAnyH_ready (rs := [12]) (by kernel_rfl) (by simp) ?_
        refine AllReadyH.cons (o := { dst := some 175, op := _, type := _, pos := _, after := _, guard := _ }) rfl (fun K hK => ?_) AllReadyH.nil
        go_simp
        have hE := hB.alloc hB.size (.cells #[.pointer (some ⟨Tl.d, 0, none⟩), .pointer (some ⟨Kl.d, 0, none⟩)] 30)
        have vE := pB.out.alloc pB.out.size (.cells #[.pointer (some ⟨Tl.d, 0, none⟩), .pointer (some ⟨Kl.d, 0, none⟩)] 30)
        have sE := Bk.fresh WB 30 #[.pointer (some ⟨Tl.d, 0, none⟩), .pointer (some ⟨Kl.d, 0, none⟩)]
        have bk := sB.out.past (.cells #[.pointer (some ⟨Tl.d, 0, none⟩), .pointer (some ⟨Kl.d, 0, none⟩)] 30)
        have hge : V2.heap.size ≤ zz := Nat.le_of_eq hzz.out
        obtain ⟨W4, hW4⟩ : ∃ W4, WB.alloc (.cells #[.pointer (some ⟨Tl.d, 0, none⟩), .pointer (some ⟨Kl.d, 0, none⟩)] 30) = W4 := ⟨_, rfl⟩
        rw [hW4] at hE vE bk sE ⊢
        obtain ⟨zb, hzb⟩ : ∃ zb, zz = zb := ⟨_, rfl⟩
        rw [hzb] at bk hge ⊢
        clear hW4 hzb
        refine hK _ _ hE (fun hHeld => ?_)
        clear hK K
        try simp only [Act.put, List.setIfInBounds_toArray, List.set_cons_zero, List.set_cons_succ]
        refine wpAnyH_ready (rs := [13]) (by kernel_rfl) (by simp) ?_
        refine AllReadyH.cons (o := { dst := some 176, op := _, type := _, pos := _, after := _, guard := _ }) rfl (fun K hK => ?_) AllReadyH.nil
        go_simp
        refine (hD.out _ _ sE hE).mono ?_
        rintro e w3 ⟨rfl, hb3⟩
        replace vE := vE.trans (hb3.mono vE.size)
        replace bk := bk.kept hb3 bk.lt
        replace hE := hE.trans (hb3.mono hE.size)
        dsimp only
        refine hK _ _ hE (fun hHeld => ?_)
        clear hK K
        try simp only [Act.put, List.setIfInBounds_toArray, List.set_cons_zero, List.set_cons_succ]
        refine wpAnyH_take (i := 14) (oi := { dst := some 162, op := _, type := _, pos := _, after := _, guard := _ }) (v := ?_) rfl (by kernel_rfl) (by kernel_rfl) (by kernel_rfl) (fun _ _ _ h => h) (Or.inl ⟨by rfl, ?_⟩) (by assumption) ?_
        rotate_left
        focus ((intro w hSw); (try dsimp only at hSw); (obtain ⟨q4, q1, q2, q3, q5⟩ := hcl.out _ hSw); go_simp; (try (with_reducible rfl)))
        try simp only [Act.put, List.setIfInBounds_toArray, List.set_cons_zero, List.set_cons_succ]
        refine wpAnyH_take (i := 15) (oi := { dst := some 177, op := _, type := _, pos := _, after := _, guard := _ }) (v := ?_) rfl (by kernel_rfl) (by kernel_rfl) (by kernel_rfl) (fun _ _ _ h => h) (Or.inl ⟨by rfl, ?_⟩) (by assumption) ?_
        rotate_left
        focus ((intro w hSw); (try dsimp only at hSw); (obtain ⟨q4, q1, q2, q3, q5⟩ := hcl.out _ hSw); go_simp; (try (with_reducible rfl)))
        try simp only [Act.put, List.setIfInBounds_toArray, List.set_cons_zero, List.set_cons_succ]
        refine wpAnyH_take (i := 16) (oi := { dst := some 178, op := _, type := _, pos := _, after := _, guard := _ }) (v := ?_) rfl (by kernel_rfl) (by kernel_rfl) (by kernel_rfl) (fun _ _ _ h => h) (Or.inl ⟨by rfl, ?_⟩) (by assumption) ?_
        rotate_left
        focus ((intro w hSw); (try dsimp only at hSw); (obtain ⟨q4, q1, q2, q3, q5⟩ := hcl.out _ hSw); go_simp; (try (with_reducible rfl)))
        try simp only [Act.put, List.setIfInBounds_toArray, List.set_cons_zero, List.set_cons_succ]
        have l0 := bk.cell 0
        have l1 := bk.cell 1
        have l2 := bk.cell 2
        have l3 := bk.cell 3
        have l4 := bk.cell 4
        have l5 := bk.cell 5
        simp at l0 l1 l2 l3 l4 l5
        have f0 := bk.free 0
        have f1 := bk.free 1
        have f2 := bk.free 2
        have f3 := bk.free 3
        have f4 := bk.free 4
        have f5 := bk.free 5
        have hF := set6_below (x := ⟨x1, x2, x3, x4, x5, x6⟩) (g := zb) hE (Nat.le_trans hb2.out.size hge)
        have vF := set6_below (x := ⟨x1, x2, x3, x4, x5, x6⟩) (g := zb) vE hge
        have kF := set6_bk (y := ⟨x1, x2, x3, x4, x5, x6⟩) (x := wd0) bk
        unfold set6 at hF vF kF
        replace hF := Lib.hid hF
        replace vF := Lib.hid vF
        replace kF := Lib.hid kF
        refine wpAnyH_ready (rs := [18]) (by kernel_rfl) (by simp) ?_
        refine AllReadyH.cons (o := { dst := none, op := _, type := _, pos := _, after := _, guard := _ }) rfl (fun K hK => ?_) AllReadyH.nil
        go_simp
        refine hK _ _ hF.out (fun hHeld => ?_)
        clear hK K
        try simp only [Act.put, List.setIfInBounds_toArray, List.set_cons_zero, List.set_cons_succ]
        refine wpAnyH_take (i := 19) (oi := { dst := some 17, op := _, type := _, pos := _, after := _, guard := _ }) (v := ?_) rfl (by kernel_rfl) (by kernel_rfl) (by kernel_rfl) (fun _ _ _ h => h) (Or.inl ⟨by rfl, ?_⟩) (by assumption) ?_
        rotate_left
        focus ((intro w hSw); (try dsimp only at hSw); (obtain ⟨q4, q1, q2, q3, q5⟩ := hcl.out _ hSw); go_simp; (try (with_reducible rfl)))
        try simp only [Act.put, List.setIfInBounds_toArray, List.set_cons_zero, List.set_cons_succ]
        refine wpAnyH_done (by kernel_rfl) ?_ _
        go_wp2_with (fail)
        go_meet
        exact ⟨_, rfl, rfl, Lib.hid ⟨kF.out, vF.out⟩⟩
  case rest =>
    obtain ⟨F, rfl, rfl, hq⟩ := hcut
    have hb3 := hb2.out.trans (hq.out.2.mono hb2.out.size)
    replace b1 := Lib.hid (b1.out.kept hq.out.2 b1.out.lt)
    replace b2 := Lib.hid (b2.out.kept hq.out.2 b2.out.lt)
    have bx := Lib.hid hq.out.1
    clear hq hb2 hD o4 d1 d2
    replace hb3 := Lib.hid hb3
    obtain ⟨t1, t2, t3, t4, t5, t6⟩ := xt
    simp only [wdV] at rt
    replace rt := Lib.hid rt
    go_upto_region 36 with (fail)
    go_cut [18, 19] from 27 to 388 (fun s18 s19 wx => ∃ G : Nat, s18 = .pointer (some ⟨G, 0, none⟩) ∧ s19 = .bool ot ∧ Hid (Bk wx G 34 #[.string t1, .int .i64 t2, .int .i64 t3, .bool t4, .bool t5, .bool t6] ∧ Below wc.heap.size wc wx ∧ wc.heap.size ≤ G))
    case first =>
      as_aux_lemma =>
        refine wp_region_held_drew (S := fun W_ => Below V.heap.size V W_) (by kernel_rfl) hb3.out.drew (fun hHeld => ?_)
        refine wpAnyH_take (i := 0) (oi := { dst := some 180, op := _, type := _, pos := _, after := _, guard := _ }) (v := ?_) rfl (by kernel_rfl) (by kernel_rfl) (by kernel_rfl) (fun _ _ _ h => h) (Or.inl ⟨by rfl, ?_⟩) (by assumption) ?_
        rotate_left
        focus ((intro w hSw); (try dsimp only at hSw); (obtain ⟨q4, q1, q2, q3, q5⟩ := hcl.out _ hSw); go_simp; (try (with_reducible rfl)))
        try simp only [Act.put, List.setIfInBounds_toArray, List.set_cons_zero, List.set_cons_succ]
        refine wpAnyH_take (i := 1) (oi := { dst := some 181, op := _, type := _, pos := _, after := _, guard := _ }) (v := ?_) rfl (by kernel_rfl) (by kernel_rfl) (by kernel_rfl) (fun _ _ _ h => h) (Or.inl ⟨by rfl, ?_⟩) (by assumption) ?_
        rotate_left
        focus ((intro w hSw); (try dsimp only at hSw); (obtain ⟨q4, q1, q2, q3, q5⟩ := hcl.out _ hSw); go_simp; (try (with_reducible rfl)))
        try simp only [Act.put, List.setIfInBounds_toArray, List.set_cons_zero, List.set_cons_succ]
        refine wpAnyH_take (i := 2) (oi := { dst := some 182, op := _, type := _, pos := _, after := _, guard := _ }) (v := ?_) rfl (by kernel_rfl) (by kernel_rfl) (by kernel_rfl) (fun _ _ _ h => h) (Or.inl ⟨by rfl, ?_⟩) (by assumption) ?_
        rotate_left
        focus ((intro w hSw); (try dsimp only at hSw); (obtain ⟨q4, q1, q2, q3, q5⟩ := hcl.out _ hSw); go_simp; (try (with_reducible rfl)))
        try simp only [Act.put, List.setIfInBounds_toArray, List.set_cons_zero, List.set_cons_succ]
        refine wpAnyH_take (i := 3) (oi := { dst := some 183, op := _, type := _, pos := _, after := _, guard := _ }) (v := ?_) rfl (by kernel_rfl) (by kernel_rfl) (by kernel_rfl) (fun _ _ _ h => h) (Or.inl ⟨by rfl, ?_⟩) (by assumption) ?_
        rotate_left
        focus ((intro w hSw); (try dsimp only at hSw); (obtain ⟨q4, q1, q2, q3, q5⟩ := hcl.out _ hSw); go_simp; (try (with_reducible rfl)))
        try simp only [Act.put, List.setIfInBounds_toArray, List.set_cons_zero, List.set_cons_succ]
        refine wpAnyH_take (i := 4) (oi := { dst := some 184, op := _, type := _, pos := _, after := _, guard := _ }) (v := ?_) rfl (by kernel_rfl) (by kernel_rfl) (by kernel_rfl) (fun _ _ _ h => h) (Or.inl ⟨by rfl, ?_⟩) (by assumption) ?_
        rotate_left
        focus ((intro w hSw); (try dsimp only at hSw); (obtain ⟨q4, q1, q2, q3, q5⟩ := hcl.out _ hSw); go_simp; (try (with_reducible rfl)))
        try simp only [Act.put, List.setIfInBounds_toArray, List.set_cons_zero, List.set_cons_succ]
        refine wpAnyH_take (i := 5) (oi := { dst := some 185, op := _, type := _, pos := _, after := _, guard := _ }) (v := ?_) rfl (by kernel_rfl) (by kernel_rfl) (by kernel_rfl) (fun _ _ _ h => h) (Or.inl ⟨by rfl, ?_⟩) (by assumption) ?_
        rotate_left
        focus ((intro w hSw); (try dsimp only at hSw); (obtain ⟨q4, q1, q2, q3, q5⟩ := hcl.out _ hSw); go_simp; (try (with_reducible rfl)))
        try simp only [Act.put, List.setIfInBounds_toArray, List.set_cons_zero, List.set_cons_succ]
        refine wpAnyH_take (i := 6) (oi := { dst := some 186, op := _, type := _, pos := _, after := _, guard := _ }) (v := ?_) rfl (by kernel_rfl) (by kernel_rfl) (by kernel_rfl) (fun _ _ _ h => h) (Or.inl ⟨by rfl, ?_⟩) (by assumption) ?_
        rotate_left
        focus ((intro w hSw); (try dsimp only at hSw); (obtain ⟨q4, q1, q2, q3, q5⟩ := hcl.out _ hSw); go_simp; (try (with_reducible rfl)))
        try simp only [Act.put, List.setIfInBounds_toArray, List.set_cons_zero, List.set_cons_succ]
        have v0 := (Below.refl wc.heap.size wc)
        refine wpAnyH_ready (rs := [7, 11]) (by kernel_rfl) (by simp) ?_
        refine AllReadyH.cons (o := { dst := some 187, op := _, type := _, pos := _, after := _, guard := _ }) rfl (fun K hK => ?_) (AllReadyH.cons (o := { dst := some 18, op := _, type := _, pos := _, after := _, guard := _ }) rfl (fun K hK => ?_) AllReadyH.nil)
        · go_simp
          refine (rt.out _ hb3.out.drew).mono ?_
          rintro e w3 ⟨rfl, hb4⟩
          have hC := hb3.out.drew.trans (hb4.mono hb3.out.drew.size)
          have vC := v0.drew.trans (hb4.mono v0.drew.size)
          dsimp only
          refine hK _ _ hC (fun hHeld => ?_)
          clear hK K
          try simp only [Act.put, List.setIfInBounds_toArray, List.set_cons_zero, List.set_cons_succ]
          refine wpAnyH_take (i := 8) (oi := { dst := some 179, op := _, type := _, pos := _, after := _, guard := _ }) (v := ?_) rfl (by kernel_rfl) (by kernel_rfl) (by kernel_rfl) (fun _ _ _ h => h) (Or.inl ⟨by rfl, ?_⟩) (by assumption) ?_
          rotate_left
          focus ((intro w hSw); (try dsimp only at hSw); (obtain ⟨q4, q1, q2, q3, q5⟩ := hcl.out _ hSw); go_simp; (try (with_reducible rfl)))
          try simp only [Act.put, List.setIfInBounds_toArray, List.set_cons_zero, List.set_cons_succ]
          refine wpAnyH_take (i := 9) (oi := { dst := some 188, op := _, type := _, pos := _, after := _, guard := _ }) (v := ?_) rfl (by kernel_rfl) (by kernel_rfl) (by kernel_rfl) (fun _ _ _ h => h) (Or.inl ⟨by rfl, ?_⟩) (by assumption) ?_
          rotate_left
          focus ((intro w hSw); (try dsimp only at hSw); (obtain ⟨q4, q1, q2, q3, q5⟩ := hcl.out _ hSw); go_simp; (try (with_reducible rfl)))
          try simp only [Act.put, List.setIfInBounds_toArray, List.set_cons_zero, List.set_cons_succ]
          refine wpAnyH_take (i := 10) (oi := { dst := some 189, op := _, type := _, pos := _, after := _, guard := _ }) (v := ?_) rfl (by kernel_rfl) (by kernel_rfl) (by kernel_rfl) (fun _ _ _ h => h) (Or.inl ⟨by rfl, ?_⟩) (by assumption) ?_
          rotate_left
          focus ((intro w hSw); (try dsimp only at hSw); (obtain ⟨q4, q1, q2, q3, q5⟩ := hcl.out _ hSw); go_simp; (try (with_reducible rfl)))
          try simp only [Act.put, List.setIfInBounds_toArray, List.set_cons_zero, List.set_cons_succ]
          refine wpAnyH_ready (rs := [11]) (by kernel_rfl) (by simp) ?_
          refine AllReadyH.cons (o := { dst := some 18, op := _, type := _, pos := _, after := _, guard := _ }) rfl (fun K hK => ?_) AllReadyH.nil
          go_simp
          have hE := hC.alloc hC.size (.cells #[.string ⟨#[]⟩, .int .i64 0, .int .i64 0, .bool false, .bool false, .bool false] 34)
          have vE := vC.alloc vC.size (.cells #[.string ⟨#[]⟩, .int .i64 0, .int .i64 0, .bool false, .bool false, .bool false] 34)
          have bk := Bk.fresh w3 34 #[.string ⟨#[]⟩, .int .i64 0, .int .i64 0, .bool false, .bool false, .bool false]
          have hge := vC.size
          obtain ⟨W4, hW4⟩ : ∃ W4, w3.alloc (.cells #[.string ⟨#[]⟩, .int .i64 0, .int .i64 0, .bool false, .bool false, .bool false] 34) = W4 := ⟨_, rfl⟩
          obtain ⟨zb, hzb⟩ : ∃ zb, w3.heap.size = zb := ⟨_, rfl⟩
          rw [hW4] at hE vE bk ⊢
          rw [hzb] at bk hge ⊢
          clear hW4 hzb
          refine hK _ _ hE (fun hHeld => ?_)
          clear hK K
          try simp only [Act.put, List.setIfInBounds_toArray, List.set_cons_zero, List.set_cons_succ]
          have l0 := bk.cell 0
          have l1 := bk.cell 1
          have l2 := bk.cell 2
          have l3 := bk.cell 3
          have l4 := bk.cell 4
          have l5 := bk.cell 5
          simp at l0 l1 l2 l3 l4 l5
          have f0 := bk.free 0
          have f1 := bk.free 1
          have f2 := bk.free 2
          have f3 := bk.free 3
          have f4 := bk.free 4
          have f5 := bk.free 5
          have hF := set6_below (x := ⟨t1, t2, t3, t4, t5, t6⟩) (g := zb) hE (Nat.le_trans hb3.out.size hge)
          have vF := set6_below (x := ⟨t1, t2, t3, t4, t5, t6⟩) (g := zb) vE hge
          have kF := set6_bk (y := ⟨t1, t2, t3, t4, t5, t6⟩) (x := wd0) bk
          unfold set6 at hF vF kF
          replace hF := Lib.hid hF
          replace vF := Lib.hid vF
          replace kF := Lib.hid kF
          refine wpAnyH_ready (rs := [12]) (by kernel_rfl) (by simp) ?_
          refine AllReadyH.cons (o := { dst := none, op := _, type := _, pos := _, after := _, guard := _ }) rfl (fun K hK => ?_) AllReadyH.nil
          go_simp
          refine hK _ _ hF.out (fun hHeld => ?_)
          clear hK K
          try simp only [Act.put, List.setIfInBounds_toArray, List.set_cons_zero, List.set_cons_succ]
          refine wpAnyH_take (i := 13) (oi := { dst := some 19, op := _, type := _, pos := _, after := _, guard := _ }) (v := ?_) rfl (by kernel_rfl) (by kernel_rfl) (by kernel_rfl) (fun _ _ _ h => h) (Or.inl ⟨by rfl, ?_⟩) (by assumption) ?_
          rotate_left
          focus ((intro w hSw); (try dsimp only at hSw); (obtain ⟨q4, q1, q2, q3, q5⟩ := hcl.out _ hSw); go_simp; (try (with_reducible rfl)))
          try simp only [Act.put, List.setIfInBounds_toArray, List.set_cons_zero, List.set_cons_succ]
          refine wpAnyH_done (by kernel_rfl) ?_ _
          go_wp2_with (fail)
          go_meet
          exact ⟨_, rfl, rfl, Lib.hid ⟨kF.out, vF.out, hge⟩⟩
        · go_simp
          have hE := (hb3.out.alloc hb3.out.size (.cells #[.string ⟨#[]⟩, .int .i64 0, .int .i64 0, .bool false, .bool false, .bool false] 34)).drew
          have vE := (v0.alloc v0.size (.cells #[.string ⟨#[]⟩, .int .i64 0, .int .i64 0, .bool false, .bool false, .bool false] 34)).drew
          have bk := (Bk.fresh wc 34 #[.string ⟨#[]⟩, .int .i64 0, .int .i64 0, .bool false, .bool false, .bool false]).draw
          have hge := v0.size
          obtain ⟨W4, hW4⟩ : ∃ W4, (wc.alloc (.cells #[.string ⟨#[]⟩, .int .i64 0, .int .i64 0, .bool false, .bool false, .bool false] 34)).drew = W4 := ⟨_, rfl⟩
          obtain ⟨zb, hzb⟩ : ∃ zb, wc.heap.size = zb := ⟨_, rfl⟩
          rw [hW4] at hE vE bk ⊢
          rw [hzb] at bk ⊢
          replace hge := Nat.le_of_eq hzb
          replace hzb := Lib.hid hzb
          clear hW4
          refine hK _ _ hE (fun hHeld => ?_)
          clear hK K
          try simp only [Act.put, List.setIfInBounds_toArray, List.set_cons_zero, List.set_cons_succ]
          refine wpAnyH_ready (rs := [7]) (by kernel_rfl) (by simp) ?_
          refine AllReadyH.cons (o := { dst := some 187, op := _, type := _, pos := _, after := _, guard := _ }) rfl (fun K hK => ?_) AllReadyH.nil
          go_simp
          refine (rt.out _ hE).mono ?_
          rintro e w3 ⟨rfl, hb4⟩
          replace vE := vE.trans (hb4.mono vE.size)
          replace bk := bk.kept hb4 bk.lt
          replace hE := hE.trans (hb4.mono hE.size)
          dsimp only
          refine hK _ _ hE (fun hHeld => ?_)
          clear hK K
          try simp only [Act.put, List.setIfInBounds_toArray, List.set_cons_zero, List.set_cons_succ]
          refine wpAnyH_take (i := 8) (oi := { dst := some 179, op := _, type := _, pos := _, after := _, guard := _ }) (v := ?_) rfl (by kernel_rfl) (by kernel_rfl) (by kernel_rfl) (fun _ _ _ h => h) (Or.inl ⟨by rfl, ?_⟩) (by assumption) ?_
          rotate_left
          focus ((intro w hSw); (try dsimp only at hSw); (obtain ⟨q4, q1, q2, q3, q5⟩ := hcl.out _ hSw); go_simp; (try (with_reducible rfl)))
          try simp only [Act.put, List.setIfInBounds_toArray, List.set_cons_zero, List.set_cons_succ]
          refine wpAnyH_take (i := 9) (oi := { dst := some 188, op := _, type := _, pos := _, after := _, guard := _ }) (v := ?_) rfl (by kernel_rfl) (by kernel_rfl) (by kernel_rfl) (fun _ _ _ h => h) (Or.inl ⟨by rfl, ?_⟩) (by assumption) ?_
          rotate_left
          focus ((intro w hSw); (try dsimp only at hSw); (obtain ⟨q4, q1, q2, q3, q5⟩ := hcl.out _ hSw); go_simp; (try (with_reducible rfl)))
          try simp only [Act.put, List.setIfInBounds_toArray, List.set_cons_zero, List.set_cons_succ]
          refine wpAnyH_take (i := 10) (oi := { dst := some 189, op := _, type := _, pos := _, after := _, guard := _ }) (v := ?_) rfl (by kernel_rfl) (by kernel_rfl) (by kernel_rfl) (fun _ _ _ h => h) (Or.inl ⟨by rfl, ?_⟩) (by assumption) ?_
          rotate_left
          focus ((intro w hSw); (try dsimp only at hSw); (obtain ⟨q4, q1, q2, q3, q5⟩ := hcl.out _ hSw); go_simp; (try (with_reducible rfl)))
          try simp only [Act.put, List.setIfInBounds_toArray, List.set_cons_zero, List.set_cons_succ]
          have l0 := bk.cell 0
          have l1 := bk.cell 1
          have l2 := bk.cell 2
          have l3 := bk.cell 3
          have l4 := bk.cell 4
          have l5 := bk.cell 5
          simp at l0 l1 l2 l3 l4 l5
          have f0 := bk.free 0
          have f1 := bk.free 1
          have f2 := bk.free 2
          have f3 := bk.free 3
          have f4 := bk.free 4
          have f5 := bk.free 5
          have hF := set6_below (x := ⟨t1, t2, t3, t4, t5, t6⟩) (g := zb) hE (Nat.le_trans hb3.out.size hge)
          have vF := set6_below (x := ⟨t1, t2, t3, t4, t5, t6⟩) (g := zb) vE hge
          have kF := set6_bk (y := ⟨t1, t2, t3, t4, t5, t6⟩) (x := wd0) bk
          unfold set6 at hF vF kF
          replace hF := Lib.hid hF
          replace vF := Lib.hid vF
          replace kF := Lib.hid kF
          refine wpAnyH_ready (rs := [12]) (by kernel_rfl) (by simp) ?_
          refine AllReadyH.cons (o := { dst := none, op := _, type := _, pos := _, after := _, guard := _ }) rfl (fun K hK => ?_) AllReadyH.nil
          go_simp
          refine hK _ _ hF.out (fun hHeld => ?_)
          clear hK K
          try simp only [Act.put, List.setIfInBounds_toArray, List.set_cons_zero, List.set_cons_succ]
          refine wpAnyH_take (i := 13) (oi := { dst := some 19, op := _, type := _, pos := _, after := _, guard := _ }) (v := ?_) rfl (by kernel_rfl) (by kernel_rfl) (by kernel_rfl) (fun _ _ _ h => h) (Or.inl ⟨by rfl, ?_⟩) (by assumption) ?_
          rotate_left
          focus ((intro w hSw); (try dsimp only at hSw); (obtain ⟨q4, q1, q2, q3, q5⟩ := hcl.out _ hSw); go_simp; (try (with_reducible rfl)))
          try simp only [Act.put, List.setIfInBounds_toArray, List.set_cons_zero, List.set_cons_succ]
          refine wpAnyH_done (by kernel_rfl) ?_ _
          go_wp2_with (fail)
          go_meet
          exact ⟨_, rfl, rfl, Lib.hid ⟨kF.out, vF.out, hge⟩⟩
    case' rest =>
      obtain ⟨G, rfl, rfl, hq⟩ := hcut
      have ng : e1 ≠ G ∧ e2 ≠ G ∧ F ≠ G ∧ V.heap.size ≤ G := by
        have := b1.out.lt
        have := b2.out.lt
        have := bx.out.lt
        have := hb3.out.size
        have := hq.out.2.2
        omega
      replace ng := Lib.hid ng
      replace b1 := b1.out.kept hq.out.2.1 b1.out.lt
      replace b2 := b2.out.kept hq.out.2.1 b2.out.lt
      replace bx := bx.out.kept hq.out.2.1 bx.out.lt
      have by_ := hq.out.1
      have hb4 := hb3.out.trans (hq.out.2.1.mono hb3.out.size)
      clear hq hb3 rt
    replace b1 := Lib.hid b1
    replace b2 := Lib.hid b2
    replace bx := Lib.hid bx
    replace by_ := Lib.hid by_
    replace hb4 := Lib.hid hb4
    cases ot
    · obtain rfl := hx.out
      obtain rfl : ok = o := ho.out
      simp only [wdV] at rk
      clear hx ho hno
      replace rk := Lib.hid rk
      go_upto_region 38 with (fail)
      go_cut [19] from 27 to 388 (fun s19 wx => s19 = .bool ok ∧ Hid ((Bk wx G 34 #[.string x1, .int .i64 x2, .int .i64 x3, .bool x4, .bool x5, .bool x6] ∧ Bk wx e1 34 #[.string a1, .int .i64 a2, .int .i64 a3, .bool a4, .bool a5, .bool a6]) ∧ Bk wx e2 34 #[.string a1, .int .i64 a2, .int .i64 a3, .bool a4, .bool a5, .bool a6] ∧ Bk wx F 34 #[.string x1, .int .i64 x2, .int .i64 x3, .bool x4, .bool x5, .bool x6] ∧ Below V.heap.size V wx))
      case first =>
        as_aux_lemma =>
          refine wp_region_held_drew (S := fun W_ => Below V.heap.size V W_) (by kernel_rfl) hb4.out.drew (fun hHeld => ?_)
          refine wpAnyH_take (i := 0) (oi := { dst := some 193, op := _, type := _, pos := _, after := _, guard := _ }) (v := ?_) rfl (by kernel_rfl) (by kernel_rfl) (by kernel_rfl) (fun _ _ _ h => h) (Or.inl ⟨by rfl, ?_⟩) (by assumption) ?_
          rotate_left
          focus ((intro w hSw); (try dsimp only at hSw); (obtain ⟨q4, q1, q2, q3, q5⟩ := hcl.out _ hSw); go_simp; (try (with_reducible rfl)))
          try simp only [Act.put, List.setIfInBounds_toArray, List.set_cons_zero, List.set_cons_succ]
          refine wpAnyH_take (i := 1) (oi := { dst := some 194, op := _, type := _, pos := _, after := _, guard := _ }) (v := ?_) rfl (by kernel_rfl) (by kernel_rfl) (by kernel_rfl) (fun _ _ _ h => h) (Or.inl ⟨by rfl, ?_⟩) (by assumption) ?_
          rotate_left
          focus ((intro w hSw); (try dsimp only at hSw); (obtain ⟨q4, q1, q2, q3, q5⟩ := hcl.out _ hSw); go_simp; (try (with_reducible rfl)))
          try simp only [Act.put, List.setIfInBounds_toArray, List.set_cons_zero, List.set_cons_succ]
          refine wpAnyH_take (i := 2) (oi := { dst := some 195, op := _, type := _, pos := _, after := _, guard := _ }) (v := ?_) rfl (by kernel_rfl) (by kernel_rfl) (by kernel_rfl) (fun _ _ _ h => h) (Or.inl ⟨by rfl, ?_⟩) (by assumption) ?_
          rotate_left
          focus ((intro w hSw); (try dsimp only at hSw); (obtain ⟨q4, q1, q2, q3, q5⟩ := hcl.out _ hSw); go_simp; (try (with_reducible rfl)))
          try simp only [Act.put, List.setIfInBounds_toArray, List.set_cons_zero, List.set_cons_succ]
          refine wpAnyH_take (i := 3) (oi := { dst := some 196, op := _, type := _, pos := _, after := _, guard := _ }) (v := ?_) rfl (by kernel_rfl) (by kernel_rfl) (by kernel_rfl) (fun _ _ _ h => h) (Or.inl ⟨by rfl, ?_⟩) (by assumption) ?_
          rotate_left
          focus ((intro w hSw); (try dsimp only at hSw); (obtain ⟨q4, q1, q2, q3, q5⟩ := hcl.out _ hSw); go_simp; (try (with_reducible rfl)))
          try simp only [Act.put, List.setIfInBounds_toArray, List.set_cons_zero, List.set_cons_succ]
          refine wpAnyH_take (i := 4) (oi := { dst := some 197, op := _, type := _, pos := _, after := _, guard := _ }) (v := ?_) rfl (by kernel_rfl) (by kernel_rfl) (by kernel_rfl) (fun _ _ _ h => h) (Or.inl ⟨by rfl, ?_⟩) (by assumption) ?_
          rotate_left
          focus ((intro w hSw); (try dsimp only at hSw); (obtain ⟨q4, q1, q2, q3, q5⟩ := hcl.out _ hSw); go_simp; (try (with_reducible rfl)))
          try simp only [Act.put, List.setIfInBounds_toArray, List.set_cons_zero, List.set_cons_succ]
          refine wpAnyH_take (i := 5) (oi := { dst := some 198, op := _, type := _, pos := _, after := _, guard := _ }) (v := ?_) rfl (by kernel_rfl) (by kernel_rfl) (by kernel_rfl) (fun _ _ _ h => h) (Or.inl ⟨by rfl, ?_⟩) (by assumption) ?_
          rotate_left
          focus ((intro w hSw); (try dsimp only at hSw); (obtain ⟨q4, q1, q2, q3, q5⟩ := hcl.out _ hSw); go_simp; (try (with_reducible rfl)))
          try simp only [Act.put, List.setIfInBounds_toArray, List.set_cons_zero, List.set_cons_succ]
          refine wpAnyH_take (i := 6) (oi := { dst := some 199, op := _, type := _, pos := _, after := _, guard := _ }) (v := ?_) rfl (by kernel_rfl) (by kernel_rfl) (by kernel_rfl) (fun _ _ _ h => h) (Or.inl ⟨by rfl, ?_⟩) (by assumption) ?_
          rotate_left
          focus ((intro w hSw); (try dsimp only at hSw); (obtain ⟨q4, q1, q2, q3, q5⟩ := hcl.out _ hSw); go_simp; (try (with_reducible rfl)))
          try simp only [Act.put, List.setIfInBounds_toArray, List.set_cons_zero, List.set_cons_succ]
          refine wpAnyH_ready (rs := [7]) (by kernel_rfl) (by simp) ?_
          refine AllReadyH.cons (o := { dst := some 200, op := _, type := _, pos := _, after := _, guard := _ }) rfl (fun K hK => ?_) AllReadyH.nil
          go_simp
          refine (rk.out _ hb4.out.drew).mono ?_
          rintro e w3 ⟨rfl, hb5⟩
          have hC := hb4.out.drew.trans (hb5.mono hb4.out.drew.size)
          have k1 := b1.out.draw.kept hb5 b1.out.draw.lt
          have k2 := b2.out.draw.kept hb5 b2.out.draw.lt
          have k3 := bx.out.draw.kept hb5 bx.out.draw.lt
          have bk := by_.out.draw.kept hb5 by_.out.draw.lt
          dsimp only
          refine hK _ _ hC (fun hHeld => ?_)
          clear hK K
          try simp only [Act.put, List.setIfInBounds_toArray, List.set_cons_zero, List.set_cons_succ]
          refine wpAnyH_take (i := 8) (oi := { dst := some 192, op := _, type := _, pos := _, after := _, guard := _ }) (v := ?_) rfl (by kernel_rfl) (by kernel_rfl) (by kernel_rfl) (fun _ _ _ h => h) (Or.inl ⟨by rfl, ?_⟩) (by assumption) ?_
          rotate_left
          focus ((intro w hSw); (try dsimp only at hSw); (obtain ⟨q4, q1, q2, q3, q5⟩ := hcl.out _ hSw); go_simp; (try (with_reducible rfl)))
          try simp only [Act.put, List.setIfInBounds_toArray, List.set_cons_zero, List.set_cons_succ]
          refine wpAnyH_take (i := 9) (oi := { dst := some 201, op := _, type := _, pos := _, after := _, guard := _ }) (v := ?_) rfl (by kernel_rfl) (by kernel_rfl) (by kernel_rfl) (fun _ _ _ h => h) (Or.inl ⟨by rfl, ?_⟩) (by assumption) ?_
          rotate_left
          focus ((intro w hSw); (try dsimp only at hSw); (obtain ⟨q4, q1, q2, q3, q5⟩ := hcl.out _ hSw); go_simp; (try (with_reducible rfl)))
          try simp only [Act.put, List.setIfInBounds_toArray, List.set_cons_zero, List.set_cons_succ]
          refine wpAnyH_take (i := 10) (oi := { dst := some 202, op := _, type := _, pos := _, after := _, guard := _ }) (v := ?_) rfl (by kernel_rfl) (by kernel_rfl) (by kernel_rfl) (fun _ _ _ h => h) (Or.inl ⟨by rfl, ?_⟩) (by assumption) ?_
          rotate_left
          focus ((intro w hSw); (try dsimp only at hSw); (obtain ⟨q4, q1, q2, q3, q5⟩ := hcl.out _ hSw); go_simp; (try (with_reducible rfl)))
          try simp only [Act.put, List.setIfInBounds_toArray, List.set_cons_zero, List.set_cons_succ]
          have l0 := bk.cell 0
          have l1 := bk.cell 1
          have l2 := bk.cell 2
          have l3 := bk.cell 3
          have l4 := bk.cell 4
          have l5 := bk.cell 5
          simp at l0 l1 l2 l3 l4 l5
          have f0 := bk.free 0
          have f1 := bk.free 1
          have f2 := bk.free 2
          have f3 := bk.free 3
          have f4 := bk.free 4
          have f5 := bk.free 5
          have hF := set6_below (x := ⟨x1, x2, x3, x4, x5, x6⟩) (g := G) hC ng.out.2.2.2
          have kF := set6_bk (y := ⟨x1, x2, x3, x4, x5, x6⟩) (x := ⟨t1, t2, t3, t4, t5, t6⟩) bk
          have j1 := set6_other (x := ⟨x1, x2, x3, x4, x5, x6⟩) k1 ng.out.1
          have j2 := set6_other (x := ⟨x1, x2, x3, x4, x5, x6⟩) k2 ng.out.2.1
          have j3 := set6_other (x := ⟨x1, x2, x3, x4, x5, x6⟩) k3 ng.out.2.2.1
          unfold set6 at hF kF j1 j2 j3
          replace hF := Lib.hid hF
          replace kF := Lib.hid kF
          replace j1 := Lib.hid j1
          replace j2 := Lib.hid j2
          replace j3 := Lib.hid j3
          clear k1 k2 k3 bk
          refine wpAnyH_ready (rs := [11]) (by kernel_rfl) (by simp) ?_
          refine AllReadyH.cons (o := { dst := none, op := _, type := _, pos := _, after := _, guard := _ }) rfl (fun K hK => ?_) AllReadyH.nil
          go_simp
          refine hK _ _ hF.out (fun hHeld => ?_)
          clear hK K
          try simp only [Act.put, List.setIfInBounds_toArray, List.set_cons_zero, List.set_cons_succ]
          refine wpAnyH_take (i := 12) (oi := { dst := some 19, op := _, type := _, pos := _, after := _, guard := _ }) (v := ?_) rfl (by kernel_rfl) (by kernel_rfl) (by kernel_rfl) (fun _ _ _ h => h) (Or.inl ⟨by rfl, ?_⟩) (by assumption) ?_
          rotate_left
          focus ((intro w hSw); (try dsimp only at hSw); (obtain ⟨q4, q1, q2, q3, q5⟩ := hcl.out _ hSw); go_simp; (try (with_reducible rfl)))
          try simp only [Act.put, List.setIfInBounds_toArray, List.set_cons_zero, List.set_cons_succ]
          refine wpAnyH_done (by kernel_rfl) ?_ _
          go_wp2_with (fail)
          go_meet
          exact ⟨rfl, Lib.hid ⟨⟨kF.out, j1.out⟩, j2.out, j3.out, hF.out⟩⟩
      case' rest =>
        obtain ⟨rfl, hq⟩ := hcut
        have b1 := Lib.hid hq.out.1.2
        have b2 := Lib.hid hq.out.2.1
        have bx := Lib.hid hq.out.2.2.1
        have by_ := Lib.hid hq.out.1.1
        have hb4 := Lib.hid hq.out.2.2.2
        clear hq rk
        as_aux_lemma =>
          obtain ⟨o4, -⟩ := hcl.out _ hb4.out
          go_upto_region 39 with (fail)
          go_wp2_with (fail)
          refine (dfind_none nm wc).mono ?_
          rintro e w5 ⟨rfl, hb5⟩
          have hb6 := hb5.alloc hb5.size (.cells #[.string ⟨#[]⟩, .int .i64 0, .int .i64 0, .bool false, .bool false, .bool false] 34)
          have bz := Bk.fresh w5 34 #[.string ⟨#[]⟩, .int .i64 0, .int .i64 0, .bool false, .bool false, .bool false]
          have b1 := Lib.hid (b1.out.kept hb6 b1.out.lt)
          have b2 := Lib.hid (b2.out.kept hb6 b2.out.lt)
          have bx := Lib.hid (bx.out.kept hb6 bx.out.lt)
          have by_ := Lib.hid (by_.out.kept hb6 by_.out.lt)
          have hb4 := Lib.hid (hb4.out.trans (hb6.mono hb4.out.size))
          clear hb5 hb6 o4
          replace bz := Lib.hid bz
          simp only [wdV, wd0]
          go_upto_region 40 with (fail)
          obtain ⟨W5, hW5⟩ : ∃ W5, w5.alloc (.cells #[.string ⟨#[]⟩, .int .i64 0, .int .i64 0, .bool false, .bool false, .bool false] 34) = W5 := ⟨_, rfl⟩
          obtain ⟨ze, hze⟩ : ∃ ze, w5.heap.size = ze := ⟨_, rfl⟩
          rw [hW5] at b1 b2 bx by_ hb4 bz ⊢
          rw [hze] at bz ⊢
          clear hW5 hze
          have p0 := b1.out.cell 0
          have p1 := b1.out.cell 1
          have p2 := b1.out.cell 2
          have p3 := b1.out.cell 3
          have p4 := b1.out.cell 4
          have p5 := b1.out.cell 5
          simp at p0 p1 p2 p3 p4 p5
          have q0 := b2.out.cell 0
          have q1 := b2.out.cell 1
          have q2 := b2.out.cell 2
          have q3 := b2.out.cell 3
          have q4 := b2.out.cell 4
          have q5 := b2.out.cell 5
          simp at q0 q1 q2 q3 q4 q5
          clear b1 b2
          have s1 := Lib.hid (fun W => lsame_any ⟨a1, a2, a3, a4, a5, a6⟩ oa W)
          have s2 := Lib.hid (fun W => lsame_any ⟨x1, x2, x3, x4, x5, x6⟩ ok W)
          go_wp2_with (fail)
          refine (s1.out _).mono ?_
          rintro e w6 ⟨rfl, hb⟩
          have bx := Lib.hid (bx.out.kept hb bx.out.lt)
          have by_ := Lib.hid (by_.out.kept hb by_.out.lt)
          have bz := Lib.hid (bz.out.kept hb bz.out.lt)
          have hb4 := Lib.hid (hb4.out.trans (hb.mono hb4.out.size))
          clear hb s1 p0 p1 p2 p3 p4 p5 q0 q1 q2 q3 q4 q5
          have p0 := bx.out.cell 0
          have p1 := bx.out.cell 1
          have p2 := bx.out.cell 2
          have p3 := bx.out.cell 3
          have p4 := bx.out.cell 4
          have p5 := bx.out.cell 5
          simp at p0 p1 p2 p3 p4 p5
          have q0 := by_.out.cell 0
          have q1 := by_.out.cell 1
          have q2 := by_.out.cell 2
          have q3 := by_.out.cell 3
          have q4 := by_.out.cell 4
          have q5 := by_.out.cell 5
          simp at q0 q1 q2 q3 q4 q5
          go_wp2_with (fail)
          refine (s2.out _).mono ?_
          rintro e w7 ⟨rfl, hb⟩
          have bz := Lib.hid (bz.out.kept hb bz.out.lt)
          have hb4 := Lib.hid (hb4.out.trans (hb.mono hb4.out.size))
          clear hb s2 p0 p1 p2 p3 p4 p5 q0 q1 q2 q3 q4 q5
          have p0 := bz.out.cell 0
          have p1 := bz.out.cell 1
          have p2 := bz.out.cell 2
          have p3 := bz.out.cell 3
          have p4 := bz.out.cell 4
          have p5 := bz.out.cell 5
          simp at p0 p1 p2 p3 p4 p5
          go_wp2_with (fail)
          go_returns
          exact ⟨rfl, s, B, a.h, a.l, O8.out.2.bel hb4.out, O8.out.1.bel' hb4.out⟩
    · obtain ⟨rfl, rfl, rfl, rfl, rfl, rfl⟩ := Wd.mk.inj hx.out
      obtain rfl : true = o := ho.out
      clear hx ho hno rk
      as_aux_lemma =>
        obtain ⟨o4, -⟩ := hcl.out _ hb4.out
        go_upto_region 39 with (fail)
        go_wp2_with (fail)
        refine (dfind_none nm wc).mono ?_
        rintro e w5 ⟨rfl, hb5⟩
        have hb6 := hb5.alloc hb5.size (.cells #[.string ⟨#[]⟩, .int .i64 0, .int .i64 0, .bool false, .bool false, .bool false] 34)
        have bz := Bk.fresh w5 34 #[.string ⟨#[]⟩, .int .i64 0, .int .i64 0, .bool false, .bool false, .bool false]
        have b1 := Lib.hid (b1.out.kept hb6 b1.out.lt)
        have b2 := Lib.hid (b2.out.kept hb6 b2.out.lt)
        have bx := Lib.hid (bx.out.kept hb6 bx.out.lt)
        have by_ := Lib.hid (by_.out.kept hb6 by_.out.lt)
        have hb4 := Lib.hid (hb4.out.trans (hb6.mono hb4.out.size))
        clear hb5 hb6 o4
        replace bz := Lib.hid bz
        simp only [wdV, wd0]
        go_upto_region 40 with (fail)
        obtain ⟨W5, hW5⟩ : ∃ W5, w5.alloc (.cells #[.string ⟨#[]⟩, .int .i64 0, .int .i64 0, .bool false, .bool false, .bool false] 34) = W5 := ⟨_, rfl⟩
        obtain ⟨ze, hze⟩ : ∃ ze, w5.heap.size = ze := ⟨_, rfl⟩
        rw [hW5] at b1 b2 bx by_ hb4 bz ⊢
        rw [hze] at bz ⊢
        clear hW5 hze
        have p0 := b1.out.cell 0
        have p1 := b1.out.cell 1
        have p2 := b1.out.cell 2
        have p3 := b1.out.cell 3
        have p4 := b1.out.cell 4
        have p5 := b1.out.cell 5
        simp at p0 p1 p2 p3 p4 p5
        have q0 := b2.out.cell 0
        have q1 := b2.out.cell 1
        have q2 := b2.out.cell 2
        have q3 := b2.out.cell 3
        have q4 := b2.out.cell 4
        have q5 := b2.out.cell 5
        simp at q0 q1 q2 q3 q4 q5
        clear b1 b2
        have s1 := Lib.hid (fun W => lsame_any ⟨a1, a2, a3, a4, a5, a6⟩ oa W)
        have s2 := Lib.hid (fun W => lsame_any ⟨t1, t2, t3, t4, t5, t6⟩ true W)
        go_wp2_with (fail)
        refine (s1.out _).mono ?_
        rintro e w6 ⟨rfl, hb⟩
        have bx := Lib.hid (bx.out.kept hb bx.out.lt)
        have by_ := Lib.hid (by_.out.kept hb by_.out.lt)
        have bz := Lib.hid (bz.out.kept hb bz.out.lt)
        have hb4 := Lib.hid (hb4.out.trans (hb.mono hb4.out.size))
        clear hb s1 p0 p1 p2 p3 p4 p5 q0 q1 q2 q3 q4 q5
        have p0 := bx.out.cell 0
        have p1 := bx.out.cell 1
        have p2 := bx.out.cell 2
        have p3 := bx.out.cell 3
        have p4 := bx.out.cell 4
        have p5 := bx.out.cell 5
        simp at p0 p1 p2 p3 p4 p5
        have q0 := by_.out.cell 0
        have q1 := by_.out.cell 1
        have q2 := by_.out.cell 2
        have q3 := by_.out.cell 3
        have q4 := by_.out.cell 4
        have q5 := by_.out.cell 5
        simp at q0 q1 q2 q3 q4 q5
        go_wp2_with (fail)
        refine (s2.out _).mono ?_
        rintro e w7 ⟨rfl, hb⟩
        have bz := Lib.hid (bz.out.kept hb bz.out.lt)
        have hb4 := Lib.hid (hb4.out.trans (hb.mono hb4.out.size))
        clear hb s2 p0 p1 p2 p3 p4 p5 q0 q1 q2 q3 q4 q5
        have p0 := bz.out.cell 0
        have p1 := bz.out.cell 1
        have p2 := bz.out.cell 2
        have p3 := bz.out.cell 3
        have p4 := bz.out.cell 4
        have p5 := bz.out.cell 5
        simp at p0 p1 p2 p3 p4 p5
        go_wp2_with (fail)
        go_returns
        exact ⟨rfl, s, B, a.h, a.l, O8.out.2.bel hb4.out, O8.out.1.bel' hb4.out⟩
end Go.Proofs.Ytoaiiimnfgbcaaa
