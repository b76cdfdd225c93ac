import Derived.Test.YtoaiiimnfgbcaaaRdC
namespace Go.Proofs.Ytoaiiimnfgbcaaa
open Go.RowKit
attribute [local go_sem] Oper.semAt_some
set_option linter.unusedVariables false
set_option linter.unusedSimpArgs false
/-! chapter 8: the document's Back -/
theorem tm8 (z : Int) : z.tmod 8 = 0 ↔ z % 8 = 0 := ⟨fun h => Int.emod_eq_zero_of_dvd (Int.dvd_of_tmod_eq_zero h), fun h => Int.tmod_eq_zero_of_dvd (Int.dvd_of_emod_eq_zero h)⟩
section
variable {W W' w : World} {q m g n : Nat} {B : List UInt8} {cl : Bool} {h l : Nat}
set_option maxRecDepth 100000 in
set_option maxHeartbeats 4000000 in
theorem rback_bad (D : Rd w q m g n B cl h l) (x z : Int) (hno : ¬ backOk (g + 8) (g + n) x z) :
    Calls Try.prog 53 #[.pointer (some ⟨q, 0, none⟩), .int .i64 x, .int .i64 z] w fun e w' => e = .returned (.int .i64 1) ∧ ∃ k, w' = w.drewN k := by
  have hto0 := Lib.hid (rto_any D)
  have hto1 := Lib.hid (fun k => rto_any (D.draws k))
  have c1 := D.c1
  have hfar := D.far
  have hb' : (g : Int) ≤ 143360 := by omega
  have h8 := tm8 z
  obtain ⟨y, hy⟩ : ∃ y : Nat, g + n = y := ⟨_, rfl⟩
  rw [hy] at hto0 hto1 hno
  unfold backOk at hno
  clear D hfar
  by_cases a1 : x < (g : Int) + 8
  · clear hno h8 hy
    go_enter Try.func53, Try.ntmps53
    go_wp2_with (fail)
    go_returns
    first | exact ⟨rfl, 0, rfl⟩ | exact ⟨rfl, _, rfl⟩ | exact ⟨rfl, _, (World.drewN_drewN _ _ _)⟩
  · by_cases a2 : (y : Int) < x
    · clear hno h8 hy
      go_enter Try.func53, Try.ntmps53
      go_wp2_with (fail)
      refine hto0.out.mono ?_
      rintro e w1 ⟨rfl, n1, hn1⟩
      have hn1 := hn1.symm
      subst hn1
      go_wp2_with (fail)
      go_returns
      first | exact ⟨rfl, 0, rfl⟩ | exact ⟨rfl, _, rfl⟩ | exact ⟨rfl, _, (World.drewN_drewN _ _ _)⟩
    · by_cases a3 : z = 0
      · exact absurd ⟨by omega, by omega, .inl a3⟩ hno
      · have z0 : (z != 0) = true := by simpa using a3
        by_cases a4 : z.tmod 8 = 0
        · have z4 : (z.tmod 8 != 0) = false := by simpa using a4
          have z5 : (z % 8 != 0) = false := by simpa using h8.1 a4
          by_cases a5 : z < (g : Int) + 8
          · clear hno h8 hy a3 a4
            go_enter Try.func53, Try.ntmps53
            go_wp2_with (fail)
            refine hto0.out.mono ?_
            rintro e w1 ⟨rfl, n1, hn1⟩
            have hn1 := hn1.symm
            subst hn1
            go_wp2_with (fail)
            go_returns
            first | exact ⟨rfl, 0, rfl⟩ | exact ⟨rfl, _, rfl⟩ | exact ⟨rfl, _, (World.drewN_drewN _ _ _)⟩
          · by_cases a6 : (y : Int) ≤ z
            · clear hno h8 hy a3 a4
              go_enter Try.func53, Try.ntmps53
              go_wp2_with (fail)
              refine hto0.out.mono ?_
              rintro e w1 ⟨rfl, n1, hn1⟩
              have hn1 := hn1.symm
              subst hn1
              go_wp2_with (fail)
              refine (hto1.out _).mono ?_
              rintro e w1 ⟨rfl, n2, hn2⟩
              have hn2 := hn2.symm
              subst hn2
              go_wp2_with (fail)
              go_returns
              first | exact ⟨rfl, 0, rfl⟩ | exact ⟨rfl, _, rfl⟩ | exact ⟨rfl, _, (World.drewN_drewN _ _ _)⟩
            · exact absurd ⟨by omega, by omega, .inr ⟨h8.1 a4, by omega, by omega⟩⟩ hno
        · have z4 : (z.tmod 8 != 0) = true := by simpa using a4
          clear hno h8 hy a3 a4
          go_enter Try.func53, Try.ntmps53
          go_wp2_with (fail)
          refine hto0.out.mono ?_
          rintro e w1 ⟨rfl, n1, hn1⟩
          have hn1 := hn1.symm
          subst hn1
          go_wp2_with (fail)
          go_returns
          first | exact ⟨rfl, 0, rfl⟩ | exact ⟨rfl, _, rfl⟩ | exact ⟨rfl, _, (World.drewN_drewN _ _ _)⟩
set_option maxRecDepth 100000 in
set_option maxHeartbeats 4000000 in
theorem rback_yes (D : Rd w q m g n B cl h l) (x z : Int) (hno : backOk (g + 8) (g + n) x z) :
    Calls Try.prog 53 #[.pointer (some ⟨q, 0, none⟩), .int .i64 x, .int .i64 z] w fun e w' => e = .returned (.int .i64 0) ∧ Rd w' q m g n B cl x.toNat z.toNat ∧ Onb m q w w' := by
  have hto0 := Lib.hid (rto_any D)
  have hto1 := Lib.hid (fun k => rto_any (D.draws k))
  have c1 := D.c1
  have hfar := D.far
  have hb' : (g : Int) ≤ 143360 := by omega
  have h8 := tm8 z
  obtain ⟨y, hy⟩ : ∃ y : Nat, g + n = y := ⟨_, rfl⟩
  rw [hy] at hto0 hto1 hno
  unfold backOk at hno
  have c3 := D.c3
  have f3 := D.bk.free 3
  have c4 := D.c4
  have f4 := D.bk.free 4
  have hx : ∃ x' : Nat, x = x' := ⟨x.toNat, by have := hno.1; omega⟩
  have hz : ∃ z' : Nat, z = z' := ⟨z.toNat, by rcases hno.2.2 with h | ⟨_, h, _⟩ <;> omega⟩
  obtain ⟨x, rfl⟩ := hx
  obtain ⟨z, rfl⟩ := hz
  simp only [Int.toNat_natCast]
  have g1 : g + 8 ≤ x ∧ x ≤ g + n := by have := hno.1; have := hno.2.1; omega
  have g2 : z = 0 ∨ g + 8 ≤ z ∧ z < g + n ∧ z % 8 = 0 := by rcases hno.2.2 with h | ⟨_, h, _⟩ <;> omega
  replace D := Lib.hid D
  replace g1 := Lib.hid g1
  replace g2 := Lib.hid g2
  obtain ⟨b1, b2, b3⟩ := hno
  have a1 : ¬ (x : Int) < (g : Int) + 8 := by omega
  have a2 : ¬ (y : Int) < x := by omega
  rcases b3 with b3 | ⟨b3, b4, b5⟩
  · obtain rfl : z = 0 := by omega
    clear h8 hy b1 b2 b3 hfar
    go_enter Try.func53, Try.ntmps53
    go_wp2_with (fail)
    refine hto0.out.mono ?_
    rintro e w1 ⟨rfl, n1, hn1⟩
    have hn1 := hn1.symm
    subst hn1
    go_wp2_with (fail)
    go_returns
    first
    | exact ⟨rfl, ((D.out.draws _).put3 x g1.out.1 g1.out.2).put4 0 (.inl rfl), (((Onb.refl m q w).draws _).putd 3 _).putd 4 _⟩
    | exact ⟨rfl, ((D.out.draws _).put3 x g1.out.1 g1.out.2).put4 _ g2.out, (((Onb.refl m q w).draws _).putd 3 _).putd 4 _⟩
    | exact ⟨rfl, (((D.out.draws _).draws _).put3 x g1.out.1 g1.out.2).put4 _ g2.out, ((((Onb.refl m q w).draws _).draws _).putd 3 _).putd 4 _⟩
  · have z0 : ((z : Int) != 0) = true := by simp; omega
    have z4 : ((z : Int).tmod 8 != 0) = false := by simpa using h8.2 b3
    have z5 : ((z : Int) % 8 != 0) = false := by simp; omega
    have a5 : ¬ (z : Int) < (g : Int) + 8 := by omega
    have a6 : ¬ (y : Int) ≤ z := by omega
    clear h8 hy b1 b2 b3 b4 b5 hfar
    go_enter Try.func53, Try.ntmps53
    go_wp2_with (fail)
    refine hto0.out.mono ?_
    rintro e w1 ⟨rfl, n1, hn1⟩
    have hn1 := hn1.symm
    subst hn1
    go_wp2_with (fail)
    refine (hto1.out _).mono ?_
    rintro e w1 ⟨rfl, n2, hn2⟩
    have hn2 := hn2.symm
    subst hn2
    go_wp2_with (fail)
    go_returns
    first
    | exact ⟨rfl, ((D.out.draws _).put3 x g1.out.1 g1.out.2).put4 0 (.inl rfl), (((Onb.refl m q w).draws _).putd 3 _).putd 4 _⟩
    | exact ⟨rfl, ((D.out.draws _).put3 x g1.out.1 g1.out.2).put4 _ g2.out, (((Onb.refl m q w).draws _).putd 3 _).putd 4 _⟩
    | exact ⟨rfl, (((D.out.draws _).draws _).put3 x g1.out.1 g1.out.2).put4 _ g2.out, ((((Onb.refl m q w).draws _).draws _).putd 3 _).putd 4 _⟩
/-! Flag -/
theorem u8_off32 (c : UInt8) : bits BinOp.or IntKind.u8 (bits BinOp.andNot IntKind.u8 (c.toNat : Int) 32) 0 = ((mkU 0 c).toNat : Int) := by
  rw [u8_show]
  have h : ∀ n : Fin 256, bits BinOp.or IntKind.u8 (((UInt8.ofNat n.val) &&& 223).toNat : Int) 0 = ((mkU 0 (UInt8.ofNat n.val)).toNat : Int) := by decide +kernel
  have := h ⟨c.toNat, c.toNat_lt⟩
  simpa using this
theorem u8_on64 (c : UInt8) : bits BinOp.or IntKind.u8 (bits BinOp.andNot IntKind.u8 (c.toNat : Int) 0) 64 = ((mkU 1 c).toNat : Int) := by
  have h : ∀ n : Fin 256, bits BinOp.or IntKind.u8 (bits BinOp.andNot IntKind.u8 ((UInt8.ofNat n.val).toNat : Int) 0) 64 = ((mkU 1 (UInt8.ofNat n.val)).toNat : Int) := by decide +kernel
  have := h ⟨c.toNat, c.toNat_lt⟩
  simpa using this
theorem u8_on128 (c : UInt8) : bits BinOp.or IntKind.u8 (bits BinOp.andNot IntKind.u8 (c.toNat : Int) 0) 128 = ((mkU 2 c).toNat : Int) := by
  have h : ∀ n : Fin 256, bits BinOp.or IntKind.u8 (bits BinOp.andNot IntKind.u8 ((UInt8.ofNat n.val).toNat : Int) 0) 128 = ((mkU 2 (UInt8.ofNat n.val)).toNat : Int) := by decide +kernel
  have := h ⟨c.toNat, c.toNat_lt⟩
  simpa using this
/-- nothing is marked -/
theorem rflag_no (D : Rd w q m g n B cl h l) (off on : Int) (hno : l = 0 ∨ cl = true ∨ g + n ≤ l + 8) : Calls Try.prog 47 #[.pointer (some ⟨q, 0, none⟩), .int .i64 off, .int .i64 on] w fun e w' => e = .returned (.tuple #[]) ∧ ∃ k, w' = w.drewN k := by
  have hto := Lib.hid (fun k => rto_any (D.draws k))
  have c2 := D.c2
  have c4 := D.c4
  have hfar := D.far
  have hla := D.la
  obtain ⟨y, hy⟩ : ∃ y, g + n = y := ⟨_, rfl⟩
  have hl2 : (l : Int) ≤ 143360 := by omega
  by_cases h0 : l = 0
  · have i0 : ((l : Int) == 0) = true := by simp; omega
    rw [hy] at hto
    clear D hla hfar hno h0 hl2 hy
    go_enter Try.func47, Try.ntmps47
    go_wp2_with (fail)
    go_quiet ((go_at_call 64; with_reducible exact Calls.quiet_of (hto.out _)))
    go_wp2_with (fail)
    go_returns
    exact ⟨rfl, _, rfl⟩
  · have i0 : ((l : Int) == 0) = false := by simp; omega
    cases cl
    · have i1 : (y : Int) ≤ (l : Int) + 8 := by
        rcases hno with h | h | h
        · exact absurd h h0
        · cases h
        · omega
      have wr1 : IntKind.i64.wrap ((l : Int) + 8) = (l : Int) + 8 := by rw [IntKind.wrap_i64]; omega
      rw [hy] at hto
      clear D hla hfar hno h0 hl2 hy
      go_enter Try.func47, Try.ntmps47
      go_wp2_with (fail)
      go_quiet ((go_at_call 64; with_reducible exact Calls.quiet_of (hto.out _)))
      go_wp2_with (fail)
      go_returns
      exact ⟨rfl, _, rfl⟩
    · rw [hy] at hto
      clear D hla hfar hno h0 hl2 hy
      go_enter Try.func47, Try.ntmps47
      go_wp2_with (fail)
      go_quiet ((go_at_call 64; with_reducible exact Calls.quiet_of (hto.out _)))
      go_wp2_with (fail)
      go_returns
      exact ⟨rfl, _, rfl⟩
theorem rflag_in (D : Rd w q m g n B false h l) (k : Nat) (off on : Int) (hk : (off = 32 ∧ on = 0 ∧ k = 0) ∨ (off = 0 ∧ on = 64 ∧ k = 1) ∨ (off = 0 ∧ on = 128 ∧ k = 2)) (h0 : l ≠ 0) (h1 : ¬ g + n ≤ l + 8) : Calls Try.prog 47 #[.pointer (some ⟨q, 0, none⟩), .int .i64 off, .int .i64 on] w fun e w' => e = .returned (.tuple #[]) ∧ Rd w' q m g n (B.set (l + 8) (mkU k (B.getD (l + 8) 0))) false h l ∧ Onb m q w w' := by
  have hto := Lib.hid (fun k => rto_any (D.draws k))
  have c2 := D.c2
  have c4 := D.c4
  have hfar := D.far
  have hla := D.la
  obtain ⟨y, hy⟩ : ∃ y, g + n = y := ⟨_, rfl⟩
  have hl2 : (l : Int) ≤ 143360 := by omega
  have i0 : ((l : Int) == 0) = false := by simp; omega
  have i1 : ¬ (y : Int) ≤ (l : Int) + 8 := by omega
  have wr1 : IntKind.i64.wrap ((l : Int) + 8) = (l : Int) + 8 := by rw [IntKind.wrap_i64]; omega
  rw [hy] at hto
  have D0 := D
  replace D0 := Lib.hid D0
  obtain ⟨c, hc⟩ : ∃ c, B.getD (l + 8) 0 = c := ⟨_, rfl⟩
  rw [hc]
  replace hc := Lib.hid hc
  have hin : g + 8 ≤ l ∧ l + 8 < g + n := by omega
  clear D hla hy
  go_enter Try.func47, Try.ntmps47
  go_wp2_with (fail)
  go_quiet ((go_at_call 64; with_reducible exact Calls.quiet_of (hto.out _)))
  have D1 := D0.out.draws nq
  obtain ⟨w1, hw1⟩ : ∃ w1, w.drewN nq = w1 := ⟨_, rfl⟩
  have O1 : Onb m q w (w.drewN nq) := (Onb.refl m q w).draws nq
  rw [hw1] at D1 O1 ⊢
  clear hw1 c2 c4 hto D0
  have c0 := D1.c0
  have c1 := D1.c1
  have c4 := D1.c4
  obtain ⟨i, hi⟩ : ∃ i, l + 8 - g = i := ⟨_, rfl⟩
  have wr2 : IntKind.i64.wrap ((l : Int) + 8 - g) = (i : Int) := by rw [IntKind.wrap_i64]; omega
  have i2 : (i : Int) < n := by omega
  have i3 : (0 : Int) ≤ i := by omega
  have i4 : ¬ (i : Int) < 0 := by omega
  have y0 := D1.byte i (by omega)
  rw [show g + i = l + 8 by omega] at y0
  have yf := D1.by_.free i
  rw [hc.out] at y0
  have hne := D1.ne
  replace D1 := Lib.hid D1
  replace O1 := Lib.hid O1
  have hgi : Hid (g + i = l + 8 ∧ g ≤ l + 8 ∧ i < n) := ⟨by omega, by omega, by omega⟩
  clear hfar hin
  go_wp2_with (fail)
  clear i0 i1 wr1
  have D1b := D1.out
  go_quiet (fail)
  have D2 := D1b.draws nq
  have O2 := O1.out.draws nq
  obtain ⟨w2, hw2⟩ : ∃ w2, w1.drewN nq = w2 := ⟨_, rfl⟩
  rw [hw2] at D2 O2 ⊢
  clear hw2 c0 c1 c4 y0 yf D1 O1 D1b
  have c0 := D2.c0
  have y0 := D2.byte i hgi.out.2.2
  rw [hgi.out.1, hc.out] at y0
  have yf := D2.by_.free i
  replace D2 := Lib.hid D2
  replace O2 := Lib.hid O2
  replace h1 := Lib.hid h1
  have e0 : IntKind.u8.wrap 0 = 0 := by decide
  have e1 : IntKind.u8.wrap 32 = 32 := by decide
  have e2 : IntKind.u8.wrap 64 = 64 := by decide
  have e3 : IntKind.u8.wrap 128 = 128 := by decide
  have b0 := u8_off32 c
  have b1 := u8_on64 c
  have b2 := u8_on128 c
  rcases hk with ⟨rfl, rfl, rfl⟩ | ⟨rfl, rfl, rfl⟩ | ⟨rfl, rfl, rfl⟩
  · skip
    obtain ⟨cc, hcc⟩ : ∃ cc, mkU 0 c = cc := ⟨_, rfl⟩
    rw [hcc] at b0
    replace hcc := Lib.hid hcc
    go_wp2_with (fail)
    have c0d : w2.drew.cell? ⟨q, 0, none⟩ = some (.slice (some ⟨m, 0, none⟩) n n) := c0
    have kE : (w2.drew.setCell ⟨m, i, none⟩ (.int .u8 (cc.toNat : Int))).cell? ⟨q, 0, none⟩ = some (.slice (some ⟨m, 0, none⟩) n n) := (World.cell?_setCell_far _ _ _ _ hne.symm).trans c0
    refine wp_region_held_drew (S := fun W_ => W_.cell? ⟨q, 0, none⟩ = some (.slice (some ⟨m, 0, none⟩) n n)) (by kernel_rfl) c0d (fun hHeld => ?_)
    refine wpAnyH_take (i := 0) (oi := { dst := some 38, op := _, type := _, pos := _, after := _, guard := _ }) (v := ?_) rfl (by kernel_rfl) (by kernel_rfl) (by kernel_rfl) (fun _ _ _ h => h) (Or.inl ⟨by rfl, ?_⟩) (by assumption) ?_
    rotate_left
    focus ((intro w hSw); (try dsimp only at hSw); go_simp; (try (with_reducible rfl)))
    try simp only [Act.put, List.setIfInBounds_toArray, List.set_cons_zero, List.set_cons_succ]
    refine wpAnyH_take (i := 1) (oi := { dst := some 39, op := _, type := _, pos := _, after := _, guard := _ }) (v := ?_) rfl (by kernel_rfl) (by kernel_rfl) (by kernel_rfl) (fun _ _ _ h => h) (Or.inl ⟨by rfl, ?_⟩) (by assumption) ?_
    rotate_left
    focus ((intro w hSw); (try dsimp only at hSw); go_simp; (try (with_reducible rfl)))
    try simp only [Act.put, List.setIfInBounds_toArray, List.set_cons_zero, List.set_cons_succ]
    refine wpAnyH_take (i := 2) (oi := { dst := some 40, op := _, type := _, pos := _, after := _, guard := _ }) (v := ?_) rfl (by kernel_rfl) (by kernel_rfl) (by kernel_rfl) (fun _ _ _ h => h) (Or.inl ⟨by rfl, ?_⟩) (by assumption) ?_
    rotate_left
    focus ((intro w hSw); (try dsimp only at hSw); go_simp; (try (with_reducible rfl)))
    try simp only [Act.put, List.setIfInBounds_toArray, List.set_cons_zero, List.set_cons_succ]
    refine wpAnyH_take (i := 3) (oi := { dst := some 41, op := _, type := _, pos := _, after := _, guard := _ }) (v := ?_) rfl (by kernel_rfl) (by kernel_rfl) (by kernel_rfl) (fun _ _ _ h => h) (Or.inl ⟨by rfl, ?_⟩) (by assumption) ?_
    rotate_left
    focus ((intro w hSw); (try dsimp only at hSw); go_simp; (try (with_reducible rfl)))
    try simp only [Act.put, List.setIfInBounds_toArray, List.set_cons_zero, List.set_cons_succ]
    refine wpAnyH_take (i := 4) (oi := { dst := some 42, op := _, type := _, pos := _, after := _, guard := _ }) (v := ?_) rfl (by kernel_rfl) (by kernel_rfl) (by kernel_rfl) (fun _ _ _ h => h) (Or.inl ⟨by rfl, ?_⟩) (by assumption) ?_
    rotate_left
    focus ((intro w hSw); (try dsimp only at hSw); go_simp; (try (with_reducible rfl)))
    try simp only [Act.put, List.setIfInBounds_toArray, List.set_cons_zero, List.set_cons_succ]
    refine wpAnyH_take (i := 5) (oi := { dst := some 43, op := _, type := _, pos := _, after := _, guard := _ }) (v := ?_) rfl (by kernel_rfl) (by kernel_rfl) (by kernel_rfl) (fun _ _ _ h => h) (Or.inl ⟨by rfl, ?_⟩) (by assumption) ?_
    rotate_left
    focus ((intro w hSw); (try dsimp only at hSw); go_simp; (try (with_reducible rfl)))
    try simp only [Act.put, List.setIfInBounds_toArray, List.set_cons_zero, List.set_cons_succ]
    refine wpAnyH_take (i := 6) (oi := { dst := some 44, op := _, type := _, pos := _, after := _, guard := _ }) (v := ?_) rfl (by kernel_rfl) (by kernel_rfl) (by kernel_rfl) (fun _ _ _ h => h) (Or.inl ⟨by rfl, ?_⟩) (by assumption) ?_
    rotate_left
    focus ((intro w hSw); (try dsimp only at hSw); go_simp; (try (with_reducible rfl)))
    try simp only [Act.put, List.setIfInBounds_toArray, List.set_cons_zero, List.set_cons_succ]
    refine wpAnyH_take (i := 7) (oi := { dst := some 45, op := _, type := _, pos := _, after := _, guard := _ }) (v := ?_) rfl (by kernel_rfl) (by kernel_rfl) (by kernel_rfl) (fun _ _ _ h => h) (Or.inl ⟨by rfl, ?_⟩) (by assumption) ?_
    rotate_left
    focus ((intro w hSw); (try dsimp only at hSw); go_simp; (try (with_reducible rfl)))
    try simp only [Act.put, List.setIfInBounds_toArray, List.set_cons_zero, List.set_cons_succ]
    refine wpAnyH_take (i := 8) (oi := { dst := some 46, op := _, type := _, pos := _, after := _, guard := _ }) (v := ?_) rfl (by kernel_rfl) (by kernel_rfl) (by kernel_rfl) (fun _ _ _ h => h) (Or.inl ⟨by rfl, ?_⟩) (by assumption) ?_
    rotate_left
    focus ((intro w hSw); (try dsimp only at hSw); go_simp; (try (with_reducible rfl)))
    try simp only [Act.put, List.setIfInBounds_toArray, List.set_cons_zero, List.set_cons_succ]
    refine wpAnyH_take (i := 9) (oi := { dst := some 47, op := _, type := _, pos := _, after := _, guard := _ }) (v := ?_) rfl (by kernel_rfl) (by kernel_rfl) (by kernel_rfl) (fun _ _ _ h => h) (Or.inl ⟨by rfl, ?_⟩) (by assumption) ?_
    rotate_left
    focus ((intro w hSw); (try dsimp only at hSw); go_simp; (try (with_reducible rfl)))
    try simp only [Act.put, List.setIfInBounds_toArray, List.set_cons_zero, List.set_cons_succ]
    refine wpAnyH_take (i := 10) (oi := { dst := some 48, op := _, type := _, pos := _, after := _, guard := _ }) (v := ?_) rfl (by kernel_rfl) (by kernel_rfl) (by kernel_rfl) (fun _ _ _ h => h) (Or.inl ⟨by rfl, ?_⟩) (by assumption) ?_
    rotate_left
    focus ((intro w hSw); (try dsimp only at hSw); go_simp; (try (with_reducible rfl)))
    try simp only [Act.put, List.setIfInBounds_toArray, List.set_cons_zero, List.set_cons_succ]
    refine wpAnyH_take (i := 12) (oi := { dst := some 50, op := _, type := _, pos := _, after := _, guard := _ }) (v := ?_) rfl (by kernel_rfl) (by kernel_rfl) (by kernel_rfl) (fun _ _ _ h => h) (Or.inl ⟨by rfl, ?_⟩) (by assumption) ?_
    rotate_left
    focus ((intro w hSw); (try dsimp only at hSw); go_simp; (try (with_reducible rfl)))
    try simp only [Act.put, List.setIfInBounds_toArray, List.set_cons_zero, List.set_cons_succ]
    refine wpAnyH_take (i := 13) (oi := { dst := some 51, op := _, type := _, pos := _, after := _, guard := _ }) (v := ?_) rfl (by kernel_rfl) (by kernel_rfl) (by kernel_rfl) (fun _ _ _ h => h) (Or.inl ⟨by rfl, ?_⟩) (by assumption) ?_
    rotate_left
    focus ((intro w hSw); (try dsimp only at hSw); go_simp; (try (with_reducible rfl)))
    try simp only [Act.put, List.setIfInBounds_toArray, List.set_cons_zero, List.set_cons_succ]
    refine wpAnyH_take (i := 15) (oi := { dst := some 53, op := _, type := _, pos := _, after := _, guard := _ }) (v := ?_) rfl (by kernel_rfl) (by kernel_rfl) (by kernel_rfl) (fun _ _ _ h => h) (Or.inl ⟨by rfl, ?_⟩) (by assumption) ?_
    rotate_left
    focus ((intro w hSw); (try dsimp only at hSw); go_simp; (try (with_reducible rfl)))
    try simp only [Act.put, List.setIfInBounds_toArray, List.set_cons_zero, List.set_cons_succ]
    refine wpAnyH_take (i := 16) (oi := { dst := some 54, op := _, type := _, pos := _, after := _, guard := _ }) (v := ?_) rfl (by kernel_rfl) (by kernel_rfl) (by kernel_rfl) (fun _ _ _ h => h) (Or.inl ⟨by rfl, ?_⟩) (by assumption) ?_
    rotate_left
    focus ((intro w hSw); (try dsimp only at hSw); go_simp; (try (with_reducible rfl)))
    try simp only [Act.put, List.setIfInBounds_toArray, List.set_cons_zero, List.set_cons_succ]
    clear hHeld
    refine wpAnyH_ready (rs := [11]) (by kernel_rfl) (by simp) ?_
    refine AllReadyH.cons (o := { dst := some 49, op := _, type := _, pos := _, after := _, guard := _ }) rfl (fun K hK => ?_) AllReadyH.nil
    go_simp
    refine hK _ _ c0d (fun hHeld => ?_)
    clear hK K
    try simp only [Act.put, List.setIfInBounds_toArray, List.set_cons_zero, List.set_cons_succ]
    refine wpAnyH_take (i := 14) (oi := { dst := some 52, op := _, type := _, pos := _, after := _, guard := _ }) (v := ?_) rfl (by kernel_rfl) (by kernel_rfl) (by kernel_rfl) (fun _ _ _ h => h) (Or.inl ⟨by rfl, ?_⟩) (by assumption) ?_
    rotate_left
    focus ((intro w hSw); (try dsimp only at hSw); go_simp; (try (with_reducible rfl)))
    try simp only [Act.put, List.setIfInBounds_toArray, List.set_cons_zero, List.set_cons_succ]
    refine wpAnyH_take (i := 17) (oi := { dst := some 55, op := _, type := _, pos := _, after := _, guard := _ }) (v := ?_) rfl (by kernel_rfl) (by kernel_rfl) (by kernel_rfl) (fun _ _ _ h => h) (Or.inl ⟨by rfl, ?_⟩) (by assumption) ?_
    rotate_left
    focus ((intro w hSw); (try dsimp only at hSw); go_simp; (try (with_reducible rfl)))
    try simp only [Act.put, List.setIfInBounds_toArray, List.set_cons_zero, List.set_cons_succ]
    refine wpAnyH_take (i := 18) (oi := { dst := some 56, op := _, type := _, pos := _, after := _, guard := _ }) (v := ?_) rfl (by kernel_rfl) (by kernel_rfl) (by kernel_rfl) (fun _ _ _ h => h) (Or.inl ⟨by rfl, ?_⟩) (by assumption) ?_
    rotate_left
    focus ((intro w hSw); (try dsimp only at hSw); go_simp; (try (with_reducible rfl)))
    try simp only [Act.put, List.setIfInBounds_toArray, List.set_cons_zero, List.set_cons_succ]
    clear hHeld
    refine wpAnyH_ready (rs := [19]) (by kernel_rfl) (by simp) ?_
    refine AllReadyH.cons (o := { dst := none, op := _, type := _, pos := _, after := _, guard := _ }) rfl (fun K hK => ?_) AllReadyH.nil
    go_simp
    refine hK _ _ kE (fun hHeld => ?_)
    clear hK K hHeld
    try simp only [Act.put, List.setIfInBounds_toArray, List.set_cons_zero, List.set_cons_succ]
    refine wpAnyH_done (by kernel_rfl) ?_ _
    go_wp2_with (fail)
    go_returns
    have D3 := D2.out.draw.set (l + 8) cc hgi.out.2.1
    rw [show l + 8 - g = i by have := hgi.out.1; omega] at D3
    exact ⟨rfl, by rw [hcc.out]; exact D3, (O2.out.draw).trans (Onb.ofb ((Only.refl m w2.drew).put i _))⟩
  · skip
    obtain ⟨cc, hcc⟩ : ∃ cc, mkU 1 c = cc := ⟨_, rfl⟩
    rw [hcc] at b1
    replace hcc := Lib.hid hcc
    go_wp2_with (fail)
    have c0d : w2.drew.cell? ⟨q, 0, none⟩ = some (.slice (some ⟨m, 0, none⟩) n n) := c0
    have kE : (w2.drew.setCell ⟨m, i, none⟩ (.int .u8 (cc.toNat : Int))).cell? ⟨q, 0, none⟩ = some (.slice (some ⟨m, 0, none⟩) n n) := (World.cell?_setCell_far _ _ _ _ hne.symm).trans c0
    refine wp_region_held_drew (S := fun W_ => W_.cell? ⟨q, 0, none⟩ = some (.slice (some ⟨m, 0, none⟩) n n)) (by kernel_rfl) c0d (fun hHeld => ?_)
    refine wpAnyH_take (i := 0) (oi := { dst := some 38, op := _, type := _, pos := _, after := _, guard := _ }) (v := ?_) rfl (by kernel_rfl) (by kernel_rfl) (by kernel_rfl) (fun _ _ _ h => h) (Or.inl ⟨by rfl, ?_⟩) (by assumption) ?_
    rotate_left
    focus ((intro w hSw); (try dsimp only at hSw); go_simp; (try (with_reducible rfl)))
    try simp only [Act.put, List.setIfInBounds_toArray, List.set_cons_zero, List.set_cons_succ]
    refine wpAnyH_take (i := 1) (oi := { dst := some 39, op := _, type := _, pos := _, after := _, guard := _ }) (v := ?_) rfl (by kernel_rfl) (by kernel_rfl) (by kernel_rfl) (fun _ _ _ h => h) (Or.inl ⟨by rfl, ?_⟩) (by assumption) ?_
    rotate_left
    focus ((intro w hSw); (try dsimp only at hSw); go_simp; (try (with_reducible rfl)))
    try simp only [Act.put, List.setIfInBounds_toArray, List.set_cons_zero, List.set_cons_succ]
    refine wpAnyH_take (i := 2) (oi := { dst := some 40, op := _, type := _, pos := _, after := _, guard := _ }) (v := ?_) rfl (by kernel_rfl) (by kernel_rfl) (by kernel_rfl) (fun _ _ _ h => h) (Or.inl ⟨by rfl, ?_⟩) (by assumption) ?_
    rotate_left
    focus ((intro w hSw); (try dsimp only at hSw); go_simp; (try (with_reducible rfl)))
    try simp only [Act.put, List.setIfInBounds_toArray, List.set_cons_zero, List.set_cons_succ]
    refine wpAnyH_take (i := 3) (oi := { dst := some 41, op := _, type := _, pos := _, after := _, guard := _ }) (v := ?_) rfl (by kernel_rfl) (by kernel_rfl) (by kernel_rfl) (fun _ _ _ h => h) (Or.inl ⟨by rfl, ?_⟩) (by assumption) ?_
    rotate_left
    focus ((intro w hSw); (try dsimp only at hSw); go_simp; (try (with_reducible rfl)))
    try simp only [Act.put, List.setIfInBounds_toArray, List.set_cons_zero, List.set_cons_succ]
    refine wpAnyH_take (i := 4) (oi := { dst := some 42, op := _, type := _, pos := _, after := _, guard := _ }) (v := ?_) rfl (by kernel_rfl) (by kernel_rfl) (by kernel_rfl) (fun _ _ _ h => h) (Or.inl ⟨by rfl, ?_⟩) (by assumption) ?_
    rotate_left
    focus ((intro w hSw); (try dsimp only at hSw); go_simp; (try (with_reducible rfl)))
    try simp only [Act.put, List.setIfInBounds_toArray, List.set_cons_zero, List.set_cons_succ]
    refine wpAnyH_take (i := 5) (oi := { dst := some 43, op := _, type := _, pos := _, after := _, guard := _ }) (v := ?_) rfl (by kernel_rfl) (by kernel_rfl) (by kernel_rfl) (fun _ _ _ h => h) (Or.inl ⟨by rfl, ?_⟩) (by assumption) ?_
    rotate_left
    focus ((intro w hSw); (try dsimp only at hSw); go_simp; (try (with_reducible rfl)))
    try simp only [Act.put, List.setIfInBounds_toArray, List.set_cons_zero, List.set_cons_succ]
    refine wpAnyH_take (i := 6) (oi := { dst := some 44, op := _, type := _, pos := _, after := _, guard := _ }) (v := ?_) rfl (by kernel_rfl) (by kernel_rfl) (by kernel_rfl) (fun _ _ _ h => h) (Or.inl ⟨by rfl, ?_⟩) (by assumption) ?_
    rotate_left
    focus ((intro w hSw); (try dsimp only at hSw); go_simp; (try (with_reducible rfl)))
    try simp only [Act.put, List.setIfInBounds_toArray, List.set_cons_zero, List.set_cons_succ]
    refine wpAnyH_take (i := 7) (oi := { dst := some 45, op := _, type := _, pos := _, after := _, guard := _ }) (v := ?_) rfl (by kernel_rfl) (by kernel_rfl) (by kernel_rfl) (fun _ _ _ h => h) (Or.inl ⟨by rfl, ?_⟩) (by assumption) ?_
    rotate_left
    focus ((intro w hSw); (try dsimp only at hSw); go_simp; (try (with_reducible rfl)))
    try simp only [Act.put, List.setIfInBounds_toArray, List.set_cons_zero, List.set_cons_succ]
    refine wpAnyH_take (i := 8) (oi := { dst := some 46, op := _, type := _, pos := _, after := _, guard := _ }) (v := ?_) rfl (by kernel_rfl) (by kernel_rfl) (by kernel_rfl) (fun _ _ _ h => h) (Or.inl ⟨by rfl, ?_⟩) (by assumption) ?_
    rotate_left
    focus ((intro w hSw); (try dsimp only at hSw); go_simp; (try (with_reducible rfl)))
    try simp only [Act.put, List.setIfInBounds_toArray, List.set_cons_zero, List.set_cons_succ]
    refine wpAnyH_take (i := 9) (oi := { dst := some 47, op := _, type := _, pos := _, after := _, guard := _ }) (v := ?_) rfl (by kernel_rfl) (by kernel_rfl) (by kernel_rfl) (fun _ _ _ h => h) (Or.inl ⟨by rfl, ?_⟩) (by assumption) ?_
    rotate_left
    focus ((intro w hSw); (try dsimp only at hSw); go_simp; (try (with_reducible rfl)))
    try simp only [Act.put, List.setIfInBounds_toArray, List.set_cons_zero, List.set_cons_succ]
    refine wpAnyH_take (i := 10) (oi := { dst := some 48, op := _, type := _, pos := _, after := _, guard := _ }) (v := ?_) rfl (by kernel_rfl) (by kernel_rfl) (by kernel_rfl) (fun _ _ _ h => h) (Or.inl ⟨by rfl, ?_⟩) (by assumption) ?_
    rotate_left
    focus ((intro w hSw); (try dsimp only at hSw); go_simp; (try (with_reducible rfl)))
    try simp only [Act.put, List.setIfInBounds_toArray, List.set_cons_zero, List.set_cons_succ]
    refine wpAnyH_take (i := 12) (oi := { dst := some 50, op := _, type := _, pos := _, after := _, guard := _ }) (v := ?_) rfl (by kernel_rfl) (by kernel_rfl) (by kernel_rfl) (fun _ _ _ h => h) (Or.inl ⟨by rfl, ?_⟩) (by assumption) ?_
    rotate_left
    focus ((intro w hSw); (try dsimp only at hSw); go_simp; (try (with_reducible rfl)))
    try simp only [Act.put, List.setIfInBounds_toArray, List.set_cons_zero, List.set_cons_succ]
    refine wpAnyH_take (i := 13) (oi := { dst := some 51, op := _, type := _, pos := _, after := _, guard := _ }) (v := ?_) rfl (by kernel_rfl) (by kernel_rfl) (by kernel_rfl) (fun _ _ _ h => h) (Or.inl ⟨by rfl, ?_⟩) (by assumption) ?_
    rotate_left
    focus ((intro w hSw); (try dsimp only at hSw); go_simp; (try (with_reducible rfl)))
    try simp only [Act.put, List.setIfInBounds_toArray, List.set_cons_zero, List.set_cons_succ]
    refine wpAnyH_take (i := 15) (oi := { dst := some 53, op := _, type := _, pos := _, after := _, guard := _ }) (v := ?_) rfl (by kernel_rfl) (by kernel_rfl) (by kernel_rfl) (fun _ _ _ h => h) (Or.inl ⟨by rfl, ?_⟩) (by assumption) ?_
    rotate_left
    focus ((intro w hSw); (try dsimp only at hSw); go_simp; (try (with_reducible rfl)))
    try simp only [Act.put, List.setIfInBounds_toArray, List.set_cons_zero, List.set_cons_succ]
    refine wpAnyH_take (i := 16) (oi := { dst := some 54, op := _, type := _, pos := _, after := _, guard := _ }) (v := ?_) rfl (by kernel_rfl) (by kernel_rfl) (by kernel_rfl) (fun _ _ _ h => h) (Or.inl ⟨by rfl, ?_⟩) (by assumption) ?_
    rotate_left
    focus ((intro w hSw); (try dsimp only at hSw); go_simp; (try (with_reducible rfl)))
    try simp only [Act.put, List.setIfInBounds_toArray, List.set_cons_zero, List.set_cons_succ]
    clear hHeld
    refine wpAnyH_ready (rs := [11]) (by kernel_rfl) (by simp) ?_
    refine AllReadyH.cons (o := { dst := some 49, op := _, type := _, pos := _, after := _, guard := _ }) rfl (fun K hK => ?_) AllReadyH.nil
    go_simp
    refine hK _ _ c0d (fun hHeld => ?_)
    clear hK K
    try simp only [Act.put, List.setIfInBounds_toArray, List.set_cons_zero, List.set_cons_succ]
    refine wpAnyH_take (i := 14) (oi := { dst := some 52, op := _, type := _, pos := _, after := _, guard := _ }) (v := ?_) rfl (by kernel_rfl) (by kernel_rfl) (by kernel_rfl) (fun _ _ _ h => h) (Or.inl ⟨by rfl, ?_⟩) (by assumption) ?_
    rotate_left
    focus ((intro w hSw); (try dsimp only at hSw); go_simp; (try (with_reducible rfl)))
    try simp only [Act.put, List.setIfInBounds_toArray, List.set_cons_zero, List.set_cons_succ]
    refine wpAnyH_take (i := 17) (oi := { dst := some 55, op := _, type := _, pos := _, after := _, guard := _ }) (v := ?_) rfl (by kernel_rfl) (by kernel_rfl) (by kernel_rfl) (fun _ _ _ h => h) (Or.inl ⟨by rfl, ?_⟩) (by assumption) ?_
    rotate_left
    focus ((intro w hSw); (try dsimp only at hSw); go_simp; (try (with_reducible rfl)))
    try simp only [Act.put, List.setIfInBounds_toArray, List.set_cons_zero, List.set_cons_succ]
    refine wpAnyH_take (i := 18) (oi := { dst := some 56, op := _, type := _, pos := _, after := _, guard := _ }) (v := ?_) rfl (by kernel_rfl) (by kernel_rfl) (by kernel_rfl) (fun _ _ _ h => h) (Or.inl ⟨by rfl, ?_⟩) (by assumption) ?_
    rotate_left
    focus ((intro w hSw); (try dsimp only at hSw); go_simp; (try (with_reducible rfl)))
    try simp only [Act.put, List.setIfInBounds_toArray, List.set_cons_zero, List.set_cons_succ]
    clear hHeld
    refine wpAnyH_ready (rs := [19]) (by kernel_rfl) (by simp) ?_
    refine AllReadyH.cons (o := { dst := none, op := _, type := _, pos := _, after := _, guard := _ }) rfl (fun K hK => ?_) AllReadyH.nil
    go_simp
    refine hK _ _ kE (fun hHeld => ?_)
    clear hK K hHeld
    try simp only [Act.put, List.setIfInBounds_toArray, List.set_cons_zero, List.set_cons_succ]
    refine wpAnyH_done (by kernel_rfl) ?_ _
    go_wp2_with (fail)
    go_returns
    have D3 := D2.out.draw.set (l + 8) cc hgi.out.2.1
    rw [show l + 8 - g = i by have := hgi.out.1; omega] at D3
    exact ⟨rfl, by rw [hcc.out]; exact D3, (O2.out.draw).trans (Onb.ofb ((Only.refl m w2.drew).put i _))⟩
  · skip
    obtain ⟨cc, hcc⟩ : ∃ cc, mkU 2 c = cc := ⟨_, rfl⟩
    rw [hcc] at b2
    replace hcc := Lib.hid hcc
    go_wp2_with (fail)
    have c0d : w2.drew.cell? ⟨q, 0, none⟩ = some (.slice (some ⟨m, 0, none⟩) n n) := c0
    have kE : (w2.drew.setCell ⟨m, i, none⟩ (.int .u8 (cc.toNat : Int))).cell? ⟨q, 0, none⟩ = some (.slice (some ⟨m, 0, none⟩) n n) := (World.cell?_setCell_far _ _ _ _ hne.symm).trans c0
    refine wp_region_held_drew (S := fun W_ => W_.cell? ⟨q, 0, none⟩ = some (.slice (some ⟨m, 0, none⟩) n n)) (by kernel_rfl) c0d (fun hHeld => ?_)
    refine wpAnyH_take (i := 0) (oi := { dst := some 38, op := _, type := _, pos := _, after := _, guard := _ }) (v := ?_) rfl (by kernel_rfl) (by kernel_rfl) (by kernel_rfl) (fun _ _ _ h => h) (Or.inl ⟨by rfl, ?_⟩) (by assumption) ?_
    rotate_left
    focus ((intro w hSw); (try dsimp only at hSw); go_simp; (try (with_reducible rfl)))
    try simp only [Act.put, List.setIfInBounds_toArray, List.set_cons_zero, List.set_cons_succ]
    refine wpAnyH_take (i := 1) (oi := { dst := some 39, op := _, type := _, pos := _, after := _, guard := _ }) (v := ?_) rfl (by kernel_rfl) (by kernel_rfl) (by kernel_rfl) (fun _ _ _ h => h) (Or.inl ⟨by rfl, ?_⟩) (by assumption) ?_
    rotate_left
    focus ((intro w hSw); (try dsimp only at hSw); go_simp; (try (with_reducible rfl)))
    try simp only [Act.put, List.setIfInBounds_toArray, List.set_cons_zero, List.set_cons_succ]
    refine wpAnyH_take (i := 2) (oi := { dst := some 40, op := _, type := _, pos := _, after := _, guard := _ }) (v := ?_) rfl (by kernel_rfl) (by kernel_rfl) (by kernel_rfl) (fun _ _ _ h => h) (Or.inl ⟨by rfl, ?_⟩) (by assumption) ?_
    rotate_left
    focus ((intro w hSw); (try dsimp only at hSw); go_simp; (try (with_reducible rfl)))
    try simp only [Act.put, List.setIfInBounds_toArray, List.set_cons_zero, List.set_cons_succ]
    refine wpAnyH_take (i := 3) (oi := { dst := some 41, op := _, type := _, pos := _, after := _, guard := _ }) (v := ?_) rfl (by kernel_rfl) (by kernel_rfl) (by kernel_rfl) (fun _ _ _ h => h) (Or.inl ⟨by rfl, ?_⟩) (by assumption) ?_
    rotate_left
    focus ((intro w hSw); (try dsimp only at hSw); go_simp; (try (with_reducible rfl)))
    try simp only [Act.put, List.setIfInBounds_toArray, List.set_cons_zero, List.set_cons_succ]
    refine wpAnyH_take (i := 4) (oi := { dst := some 42, op := _, type := _, pos := _, after := _, guard := _ }) (v := ?_) rfl (by kernel_rfl) (by kernel_rfl) (by kernel_rfl) (fun _ _ _ h => h) (Or.inl ⟨by rfl, ?_⟩) (by assumption) ?_
    rotate_left
    focus ((intro w hSw); (try dsimp only at hSw); go_simp; (try (with_reducible rfl)))
    try simp only [Act.put, List.setIfInBounds_toArray, List.set_cons_zero, List.set_cons_succ]
    refine wpAnyH_take (i := 5) (oi := { dst := some 43, op := _, type := _, pos := _, after := _, guard := _ }) (v := ?_) rfl (by kernel_rfl) (by kernel_rfl) (by kernel_rfl) (fun _ _ _ h => h) (Or.inl ⟨by rfl, ?_⟩) (by assumption) ?_
    rotate_left
    focus ((intro w hSw); (try dsimp only at hSw); go_simp; (try (with_reducible rfl)))
    try simp only [Act.put, List.setIfInBounds_toArray, List.set_cons_zero, List.set_cons_succ]
    refine wpAnyH_take (i := 6) (oi := { dst := some 44, op := _, type := _, pos := _, after := _, guard := _ }) (v := ?_) rfl (by kernel_rfl) (by kernel_rfl) (by kernel_rfl) (fun _ _ _ h => h) (Or.inl ⟨by rfl, ?_⟩) (by assumption) ?_
    rotate_left
    focus ((intro w hSw); (try dsimp only at hSw); go_simp; (try (with_reducible rfl)))
    try simp only [Act.put, List.setIfInBounds_toArray, List.set_cons_zero, List.set_cons_succ]
    refine wpAnyH_take (i := 7) (oi := { dst := some 45, op := _, type := _, pos := _, after := _, guard := _ }) (v := ?_) rfl (by kernel_rfl) (by kernel_rfl) (by kernel_rfl) (fun _ _ _ h => h) (Or.inl ⟨by rfl, ?_⟩) (by assumption) ?_
    rotate_left
    focus ((intro w hSw); (try dsimp only at hSw); go_simp; (try (with_reducible rfl)))
    try simp only [Act.put, List.setIfInBounds_toArray, List.set_cons_zero, List.set_cons_succ]
    refine wpAnyH_take (i := 8) (oi := { dst := some 46, op := _, type := _, pos := _, after := _, guard := _ }) (v := ?_) rfl (by kernel_rfl) (by kernel_rfl) (by kernel_rfl) (fun _ _ _ h => h) (Or.inl ⟨by rfl, ?_⟩) (by assumption) ?_
    rotate_left
    focus ((intro w hSw); (try dsimp only at hSw); go_simp; (try (with_reducible rfl)))
    try simp only [Act.put, List.setIfInBounds_toArray, List.set_cons_zero, List.set_cons_succ]
    refine wpAnyH_take (i := 9) (oi := { dst := some 47, op := _, type := _, pos := _, after := _, guard := _ }) (v := ?_) rfl (by kernel_rfl) (by kernel_rfl) (by kernel_rfl) (fun _ _ _ h => h) (Or.inl ⟨by rfl, ?_⟩) (by assumption) ?_
    rotate_left
    focus ((intro w hSw); (try dsimp only at hSw); go_simp; (try (with_reducible rfl)))
    try simp only [Act.put, List.setIfInBounds_toArray, List.set_cons_zero, List.set_cons_succ]
    refine wpAnyH_take (i := 10) (oi := { dst := some 48, op := _, type := _, pos := _, after := _, guard := _ }) (v := ?_) rfl (by kernel_rfl) (by kernel_rfl) (by kernel_rfl) (fun _ _ _ h => h) (Or.inl ⟨by rfl, ?_⟩) (by assumption) ?_
    rotate_left
    focus ((intro w hSw); (try dsimp only at hSw); go_simp; (try (with_reducible rfl)))
    try simp only [Act.put, List.setIfInBounds_toArray, List.set_cons_zero, List.set_cons_succ]
    refine wpAnyH_take (i := 12) (oi := { dst := some 50, op := _, type := _, pos := _, after := _, guard := _ }) (v := ?_) rfl (by kernel_rfl) (by kernel_rfl) (by kernel_rfl) (fun _ _ _ h => h) (Or.inl ⟨by rfl, ?_⟩) (by assumption) ?_
    rotate_left
    focus ((intro w hSw); (try dsimp only at hSw); go_simp; (try (with_reducible rfl)))
    try simp only [Act.put, List.setIfInBounds_toArray, List.set_cons_zero, List.set_cons_succ]
    refine wpAnyH_take (i := 13) (oi := { dst := some 51, op := _, type := _, pos := _, after := _, guard := _ }) (v := ?_) rfl (by kernel_rfl) (by kernel_rfl) (by kernel_rfl) (fun _ _ _ h => h) (Or.inl ⟨by rfl, ?_⟩) (by assumption) ?_
    rotate_left
    focus ((intro w hSw); (try dsimp only at hSw); go_simp; (try (with_reducible rfl)))
    try simp only [Act.put, List.setIfInBounds_toArray, List.set_cons_zero, List.set_cons_succ]
    refine wpAnyH_take (i := 15) (oi := { dst := some 53, op := _, type := _, pos := _, after := _, guard := _ }) (v := ?_) rfl (by kernel_rfl) (by kernel_rfl) (by kernel_rfl) (fun _ _ _ h => h) (Or.inl ⟨by rfl, ?_⟩) (by assumption) ?_
    rotate_left
    focus ((intro w hSw); (try dsimp only at hSw); go_simp; (try (with_reducible rfl)))
    try simp only [Act.put, List.setIfInBounds_toArray, List.set_cons_zero, List.set_cons_succ]
    refine wpAnyH_take (i := 16) (oi := { dst := some 54, op := _, type := _, pos := _, after := _, guard := _ }) (v := ?_) rfl (by kernel_rfl) (by kernel_rfl) (by kernel_rfl) (fun _ _ _ h => h) (Or.inl ⟨by rfl, ?_⟩) (by assumption) ?_
    rotate_left
    focus ((intro w hSw); (try dsimp only at hSw); go_simp; (try (with_reducible rfl)))
    try simp only [Act.put, List.setIfInBounds_toArray, List.set_cons_zero, List.set_cons_succ]
    clear hHeld
    refine wpAnyH_ready (rs := [11]) (by kernel_rfl) (by simp) ?_
    refine AllReadyH.cons (o := { dst := some 49, op := _, type := _, pos := _, after := _, guard := _ }) rfl (fun K hK => ?_) AllReadyH.nil
    go_simp
    refine hK _ _ c0d (fun hHeld => ?_)
    clear hK K
    try simp only [Act.put, List.setIfInBounds_toArray, List.set_cons_zero, List.set_cons_succ]
    refine wpAnyH_take (i := 14) (oi := { dst := some 52, op := _, type := _, pos := _, after := _, guard := _ }) (v := ?_) rfl (by kernel_rfl) (by kernel_rfl) (by kernel_rfl) (fun _ _ _ h => h) (Or.inl ⟨by rfl, ?_⟩) (by assumption) ?_
    rotate_left
    focus ((intro w hSw); (try dsimp only at hSw); go_simp; (try (with_reducible rfl)))
    try simp only [Act.put, List.setIfInBounds_toArray, List.set_cons_zero, List.set_cons_succ]
    refine wpAnyH_take (i := 17) (oi := { dst := some 55, op := _, type := _, pos := _, after := _, guard := _ }) (v := ?_) rfl (by kernel_rfl) (by kernel_rfl) (by kernel_rfl) (fun _ _ _ h => h) (Or.inl ⟨by rfl, ?_⟩) (by assumption) ?_
    rotate_left
    focus ((intro w hSw); (try dsimp only at hSw); go_simp; (try (with_reducible rfl)))
    try simp only [Act.put, List.setIfInBounds_toArray, List.set_cons_zero, List.set_cons_succ]
    refine wpAnyH_take (i := 18) (oi := { dst := some 56, op := _, type := _, pos := _, after := _, guard := _ }) (v := ?_) rfl (by kernel_rfl) (by kernel_rfl) (by kernel_rfl) (fun _ _ _ h => h) (Or.inl ⟨by rfl, ?_⟩) (by assumption) ?_
    rotate_left
    focus ((intro w hSw); (try dsimp only at hSw); go_simp; (try (with_reducible rfl)))
    try simp only [Act.put, List.setIfInBounds_toArray, List.set_cons_zero, List.set_cons_succ]
    clear hHeld
    refine wpAnyH_ready (rs := [19]) (by kernel_rfl) (by simp) ?_
    refine AllReadyH.cons (o := { dst := none, op := _, type := _, pos := _, after := _, guard := _ }) rfl (fun K hK => ?_) AllReadyH.nil
    go_simp
    refine hK _ _ kE (fun hHeld => ?_)
    clear hK K hHeld
    try simp only [Act.put, List.setIfInBounds_toArray, List.set_cons_zero, List.set_cons_succ]
    refine wpAnyH_done (by kernel_rfl) ?_ _
    go_wp2_with (fail)
    go_returns
    have D3 := D2.out.draw.set (l + 8) cc hgi.out.2.1
    rw [show l + 8 - g = i by have := hgi.out.1; omega] at D3
    exact ⟨rfl, by rw [hcc.out]; exact D3, (O2.out.draw).trans (Onb.ofb ((Only.refl m w2.drew).put i _))⟩
end
end Go.Proofs.Ytoaiiimnfgbcaaa
