import Derived.Test.YtmmfjonoenmplaaDoorGbB
namespace Go.Proofs.YtmmfjonoenmplaaDoor
open Go.RowKit Go.Extern.Stop Go.Stop Go.Extern
set_option linter.unusedVariables false
set_option linter.unusedSimpArgs false
/-! chapter 2: the document's digits, Print -/
def dB : ByteArray := ⟨#[48, 49, 50, 51, 52, 53, 54, 55, 56, 57]⟩
theorem dB_fin : ∀ k : Fin 10, (dB.data.toList.drop k.val).take (k.val + 1 - k.val) = [UInt8.ofNat (48 + k.val)] := by decide +kernel
theorem dB_at (k : Nat) (h : k < 10) : dB.extract k (k + 1) = ⟨#[UInt8.ofNat (48 + k)]⟩ := by
  rw [Lib.extract_eq]
  have := dB_fin ⟨k, h⟩
  simp only at this
  rw [this]
theorem dec_len9 : ∀ (k u : Nat), u < 10 ^ (k + 1) → (Lib.decDigits u).length ≤ k + 1
  | 0, u, h => by rw [Lib.decDigits, dif_pos (by simpa using h)]; simp
  | k + 1, u, h => by
    rw [Lib.decDigits]
    split
    · simp
    · have := dec_len9 k (u / 10) (by rw [Nat.pow_succ] at h; omega)
      simp; omega
set_option maxRecDepth 100000 in
theorem rdig_nat : ∀ n : Nat, n ≤ 100000000 → ∀ w, Calls Tryd.prog 57 #[.int .i64 (n : Int)] w fun e w' => e = .returned (.string ⟨(Lib.decDigits n).toArray⟩) ∧ ∃ k, w' = w.drewN k := by
  intro n
  induction n using Nat.strongRecOn with
  | _ n ih =>
    intro hn w
    have n0 : ¬ (n : Int) < 0 := by omega
    by_cases h : n < 10
    · have h' : (n : Int) < 10 := by omega
      have hx := dB_at n h
      rw [show Lib.decDigits n = [UInt8.ofNat (48 + n)] by rw [Lib.decDigits, dif_pos h]]
      obtain ⟨S, hS⟩ : ∃ S : ByteArray, ⟨#[UInt8.ofNat (48 + n)]⟩ = S := ⟨_, rfl⟩
      rw [hS] at hx
      rw [show (⟨[UInt8.ofNat (48 + n)].toArray⟩ : ByteArray) = S from hS]
      unfold dB at hx
      have e1 : (n : Int).toNat = n := by omega
      have e2 : ((n : Int) + 1).toNat = n + 1 := by omega
      have g1 : (n : Int) + 1 ≤ 10 := by omega
      clear ih hS
      go_enter Tryd.func57, Tryd.ntmps57
      go_wp2_with (fail)
      go_returns
      exact ⟨rfl, 0, rfl⟩
    · have h' : ¬ (n : Int) < 10 := by omega
      have hc := fun w => ih (n / 10) (by omega) (by omega) w
      have hm := dB_at (n % 10) (Nat.mod_lt _ (by decide))
      have hl := dec_len9 8 (n / 10) (by omega)
      have hD : Lib.decDigits n = Lib.decDigits (n / 10) ++ [UInt8.ofNat (48 + n % 10)] := by rw [Lib.decDigits, dif_neg h]
      rw [hD]
      obtain ⟨D, hDd⟩ : ∃ D, Lib.decDigits (n / 10) = D := ⟨_, rfl⟩
      simp only [hDd] at hc hl
      rw [hDd]
      have hcat := cat_run D [UInt8.ofNat (48 + n % 10)] (by omega) (by simp)
      obtain ⟨S, hS⟩ : ∃ S : ByteArray, ⟨#[UInt8.ofNat (48 + n % 10)]⟩ = S := ⟨_, rfl⟩
      obtain ⟨T, hT⟩ : ∃ S : ByteArray, ⟨D.toArray⟩ = S := ⟨_, rfl⟩
      obtain ⟨U, hU⟩ : ∃ S : ByteArray, ⟨(D ++ [UInt8.ofNat (48 + n % 10)]).toArray⟩ = S := ⟨_, rfl⟩
      rw [hS] at hm
      rw [show (⟨[UInt8.ofNat (48 + n % 10)].toArray⟩ : ByteArray) = S from hS, hT, hU] at hcat
      simp only [hT] at hc
      rw [hU]
      unfold dB at hm
      obtain ⟨q, hq⟩ : ∃ q, n / 10 = q := ⟨_, rfl⟩
      obtain ⟨m, hmm⟩ : ∃ m, n % 10 = m := ⟨_, rfl⟩
      rw [hmm] at hm
      rw [hq] at hc
      have i1 : (n : Int) / 10 = (q : Int) := by omega
      have i2 : (n : Int) % 10 = (m : Int) := by omega
      have i4 : (n : Int).tmod 10 = (m : Int) := by rw [Int.tmod_eq_emod_of_nonneg (by omega)]; omega
      have i3 : (m : Int) + 1 ≤ 10 := by omega
      have e1 : (m : Int).toNat = m := by omega
      have e2 : ((m : Int) + 1).toNat = m + 1 := by omega
      have g0 : (0 : Int) ≤ (m : Int) + 1 := by omega
      have g1 : (m : Int) ≤ (m : Int) + 1 := by omega
      have ew : IntKind.i64.wrap ((m : Int) + 1) = (m : Int) + 1 := by rw [IntKind.wrap_i64]; omega
      replace hc := Lib.hid hc
      have ew2 : IntKind.i64.wrap (q : Int) = (q : Int) := by rw [IntKind.wrap_i64]; omega
      replace ew := Lib.hid (And.intro ew ew2)
      clear ih hS hT hU hDd hD hl hq hmm h ew2
      go_enter Tryd.func57, Tryd.ntmps57
      go_upto_region 5 with (fail)
      obtain ⟨ew, ew2⟩ := ew.out
      refine wp_region_held_drew (S := fun _ => True) (by kernel_rfl) trivial (fun hHeld => ?_)
      refine wpAnyH_take (i := 0) (oi := { dst := some 15, op := _, type := _, pos := _, after := _, guard := _ }) (v := ?_) rfl (by kernel_rfl) (by kernel_rfl) (by kernel_rfl) (fun _ _ _ h => h) (Or.inl ⟨by rfl, ?_⟩) trivial ?_
      rotate_left
      focus ((intro w hSw); (try dsimp only at hSw); go_simp; (try (with_reducible rfl)))
      try simp only [Act.put, List.setIfInBounds_toArray, List.set_cons_zero, List.set_cons_succ]
      refine wpAnyH_take (i := 1) (oi := { dst := some 16, op := _, type := _, pos := _, after := _, guard := _ }) (v := ?_) rfl (by kernel_rfl) (by kernel_rfl) (by kernel_rfl) (fun _ _ _ h => h) (Or.inl ⟨by rfl, ?_⟩) trivial ?_
      rotate_left
      focus ((intro w hSw); (try dsimp only at hSw); go_simp; (try (with_reducible rfl)))
      try simp only [Act.put, List.setIfInBounds_toArray, List.set_cons_zero, List.set_cons_succ]
      refine wpAnyH_take (i := 3) (oi := { dst := some 18, op := _, type := _, pos := _, after := _, guard := _ }) (v := ?_) rfl (by kernel_rfl) (by kernel_rfl) (by kernel_rfl) (fun _ _ _ h => h) (Or.inl ⟨by rfl, ?_⟩) trivial ?_
      rotate_left
      focus ((intro w hSw); (try dsimp only at hSw); go_simp; (try (with_reducible rfl)))
      try simp only [Act.put, List.setIfInBounds_toArray, List.set_cons_zero, List.set_cons_succ]
      refine wpAnyH_take (i := 4) (oi := { dst := some 19, op := _, type := _, pos := _, after := _, guard := _ }) (v := ?_) rfl (by kernel_rfl) (by kernel_rfl) (by kernel_rfl) (fun _ _ _ h => h) (Or.inl ⟨by rfl, ?_⟩) trivial ?_
      rotate_left
      focus ((intro w hSw); (try dsimp only at hSw); go_simp; (try (with_reducible rfl)))
      try simp only [Act.put, List.setIfInBounds_toArray, List.set_cons_zero, List.set_cons_succ]
      refine wpAnyH_take (i := 5) (oi := { dst := some 20, op := _, type := _, pos := _, after := _, guard := _ }) (v := ?_) rfl (by kernel_rfl) (by kernel_rfl) (by kernel_rfl) (fun _ _ _ h => h) (Or.inl ⟨by rfl, ?_⟩) trivial ?_
      rotate_left
      focus ((intro w hSw); (try dsimp only at hSw); go_simp; (try (with_reducible rfl)))
      try simp only [Act.put, List.setIfInBounds_toArray, List.set_cons_zero, List.set_cons_succ]
      refine wpAnyH_take (i := 6) (oi := { dst := some 21, op := _, type := _, pos := _, after := _, guard := _ }) (v := ?_) rfl (by kernel_rfl) (by kernel_rfl) (by kernel_rfl) (fun _ _ _ h => h) (Or.inl ⟨by rfl, ?_⟩) trivial ?_
      rotate_left
      focus ((intro w hSw); (try dsimp only at hSw); go_simp; (try (with_reducible rfl)))
      try simp only [Act.put, List.setIfInBounds_toArray, List.set_cons_zero, List.set_cons_succ]
      refine wpAnyH_take (i := 7) (oi := { dst := some 22, op := _, type := _, pos := _, after := _, guard := _ }) (v := ?_) rfl (by kernel_rfl) (by kernel_rfl) (by kernel_rfl) (fun _ _ _ h => h) (Or.inl ⟨by rfl, ?_⟩) trivial ?_
      rotate_left
      focus ((intro w hSw); (try dsimp only at hSw); go_simp; (try (with_reducible rfl)))
      try simp only [Act.put, List.setIfInBounds_toArray, List.set_cons_zero, List.set_cons_succ]
      refine wpAnyH_take (i := 8) (oi := { dst := some 23, op := _, type := _, pos := _, after := _, guard := _ }) (v := ?_) rfl (by kernel_rfl) (by kernel_rfl) (by kernel_rfl) (fun _ _ _ h => h) (Or.inl ⟨by rfl, ?_⟩) trivial ?_
      rotate_left
      focus ((intro w hSw); (try dsimp only at hSw); go_simp; (try (with_reducible rfl)))
      try simp only [Act.put, List.setIfInBounds_toArray, List.set_cons_zero, List.set_cons_succ]
      clear hHeld
      refine wpAnyH_ready (rs := [2]) (by kernel_rfl) (by simp) ?_
      refine AllReadyH.cons (o := { dst := some 17, op := _, type := _, pos := _, after := _, guard := _ }) rfl (fun K hK => ?_) AllReadyH.nil
      go_simp
      refine Calls.mono (hc.out _) ?_
      rintro e w1_ ⟨rfl, k, hk⟩
      replace hk := Lib.hid hk
      go_wp2_with (fail)
      refine hK.out _ _ trivial (fun hHeld => ?_)
      clear hK K hHeld
      try simp only [Act.put, List.setIfInBounds_toArray, List.set_cons_zero, List.set_cons_succ]
      refine wpAnyH_take (i := 9) (oi := { dst := some 24, op := _, type := _, pos := _, after := _, guard := _ }) (v := ?_) rfl (by kernel_rfl) (by kernel_rfl) (by kernel_rfl) (fun _ _ _ h => h) (Or.inl ⟨by rfl, ?_⟩) trivial ?_
      rotate_left
      focus ((intro w hSw); (try dsimp only at hSw); go_simp; (try (with_reducible rfl)))
      try simp only [Act.put, List.setIfInBounds_toArray, List.set_cons_zero, List.set_cons_succ]
      refine wpAnyH_take (i := 10) (oi := { dst := some 2, op := _, type := _, pos := _, after := _, guard := _ }) (v := ?_) rfl (by kernel_rfl) (by kernel_rfl) (by kernel_rfl) (fun _ _ _ h => h) (Or.inl ⟨by rfl, ?_⟩) trivial ?_
      rotate_left
      focus ((intro w hSw); (try dsimp only at hSw); go_simp; (try (with_reducible rfl)))
      try simp only [Act.put, List.setIfInBounds_toArray, List.set_cons_zero, List.set_cons_succ]
      refine wpAnyH_done (by kernel_rfl) ?_ _
      go_wp2_with (fail)
      go_returns
      exact ⟨rfl, 1 + k, by rw [hk.out]; exact World.drewN_drewN w 1 k⟩
set_option maxRecDepth 100000 in
theorem rdig_any (n : Int) (h0 : -100000000 ≤ n) (h1 : n ≤ 100000000) (w : World) : Calls Tryd.prog 57 #[.int .i64 n] w fun e w' => e = .returned (.string ⟨(Lib.itoa n).toArray⟩) ∧ ∃ k, w' = w.drewN k := by
  by_cases hn : n < 0
  · have hc := fun w => rdig_nat n.natAbs (by omega) w
    rw [show ((n.natAbs : Nat) : Int) = -n by omega] at hc
    have hl := dec_len9 8 n.natAbs (by omega)
    have hi : Lib.itoa n = [45] ++ Lib.decDigits n.natAbs := by unfold Lib.itoa; rw [if_pos hn]; rfl
    rw [hi]
    obtain ⟨D, hDd⟩ : ∃ D, Lib.decDigits n.natAbs = D := ⟨_, rfl⟩
    simp only [hDd] at hc hl
    rw [hDd]
    have hcat := cat_run [45] D (by simp) (by omega)
    obtain ⟨T, hT⟩ : ∃ S : ByteArray, ⟨D.toArray⟩ = S := ⟨_, rfl⟩
    obtain ⟨U, hU⟩ : ∃ S : ByteArray, ⟨([45] ++ D).toArray⟩ = S := ⟨_, rfl⟩
    rw [show (⟨[45].toArray⟩ : ByteArray) = ⟨#[45]⟩ from rfl, hT, hU] at hcat
    simp only [hT] at hc
    rw [hU]
    have ew : IntKind.i64.wrap (-n) = -n := by rw [IntKind.wrap_i64]; omega
    replace hc := Lib.hid hc
    clear hT hU hDd hl hi
    go_enter Tryd.func57, Tryd.ntmps57
    go_wp2_with (fail)
    refine (hc.out _).mono ?_
    rintro e w1 ⟨rfl, k, hk⟩
    replace hk := Lib.hid hk
    go_wp2_with (fail)
    go_returns
    exact ⟨rfl, k, hk.out⟩
  · have hc := rdig_nat n.toNat (by omega) w
    rw [show ((n.toNat : Nat) : Int) = n by omega] at hc
    rw [itoa_pos (by omega)]
    exact hc
set_option maxRecDepth 100000 in
theorem rprint_any (a : Int × Int) (ha : Sm a 16777216) (w : World) : Calls Tryd.prog 43 #[zV a] w fun e w' => e = .returned (.string ⟨(printL a).toArray⟩) ∧ Below w.heap.size w w' := by
  obtain ⟨a1, a2⟩ := a
  obtain ⟨h1, h2, h3, h4⟩ := ha
  simp only at h1 h2 h3 h4
  have i1 := Lib.hid (fun w => rdig_any a1 (by omega) (by omega) w)
  have i2 := Lib.hid (fun w => rdig_any a2 (by omega) (by omega) w)
  have l1 := Lib.itoa_length_le a1 (by omega) (by omega)
  have l2 := Lib.itoa_length_le a2 (by omega) (by omega)
  have hZ := Lib.hid (⟨Bk.fresh w 25 #[.int .i64 a1, .int .i64 a2], (Below.refl _ _).alloc (Nat.le_refl _) _⟩ : Bk (w.alloc (.cells #[.int .i64 a1, .int .i64 a2] 25)) w.heap.size 25 #[.int .i64 a1, .int .i64 a2] ∧ Below w.heap.size w (w.alloc (.cells #[.int .i64 a1, .int .i64 a2] 25)))
  unfold printL zV
  simp only
  obtain ⟨t1, e1⟩ : ∃ t, Lib.itoa a1 = t := ⟨_, rfl⟩
  obtain ⟨t2, e2⟩ : ∃ t, Lib.itoa a2 = t := ⟨_, rfl⟩
  simp only [e1] at i1 l1 ⊢
  simp only [e2] at i2 l2 ⊢
  have c1 := cat_run t2 [105] (by omega) (by simp)
  have c2 := cat_run t1 [43] (by omega) (by simp)
  have c3 := cat_run (t1 ++ [43]) (t2 ++ [105]) (by simp; omega) (by simp; omega)
  have c5 := cat_run t1 (t2 ++ [105]) (by omega) (by simp; omega)
  rw [show t1 ++ [43] ++ t2 ++ [105] = t1 ++ [43] ++ (t2 ++ [105]) by simp, show t1 ++ t2 ++ [105] = t1 ++ (t2 ++ [105]) by simp]
  obtain ⟨s1, g1⟩ : ∃ s : ByteArray, ⟨t1.toArray⟩ = s := ⟨_, rfl⟩
  obtain ⟨s2, g2⟩ : ∃ s : ByteArray, ⟨t2.toArray⟩ = s := ⟨_, rfl⟩
  obtain ⟨s3, g3⟩ : ∃ s : ByteArray, ⟨(t2 ++ [105]).toArray⟩ = s := ⟨_, rfl⟩
  obtain ⟨s4, g4⟩ : ∃ s : ByteArray, ⟨(t1 ++ [43]).toArray⟩ = s := ⟨_, rfl⟩
  obtain ⟨s6, g6⟩ : ∃ s : ByteArray, ⟨(t1 ++ [43] ++ (t2 ++ [105])).toArray⟩ = s := ⟨_, rfl⟩
  obtain ⟨s8, g8⟩ : ∃ s : ByteArray, ⟨(t1 ++ (t2 ++ [105])).toArray⟩ = s := ⟨_, rfl⟩
  have k1 : (ByteArray.mk [105].toArray) = ⟨#[105]⟩ := rfl
  have k2 : (ByteArray.mk [43].toArray) = ⟨#[43]⟩ := rfl
  rw [k1, g2, g3] at c1
  rw [k2, g1, g4] at c2
  rw [g4, g3, g6] at c3
  rw [g1, g3, g8] at c5
  simp only [g1] at i1
  simp only [g2] at i2
  have G := Lib.hid (⟨g1, g3, g6, g8⟩ : (⟨t1.toArray⟩ : ByteArray) = s1 ∧ (⟨(t2 ++ [105]).toArray⟩ : ByteArray) = s3 ∧ (⟨(t1 ++ [43] ++ (t2 ++ [105])).toArray⟩ : ByteArray) = s6 ∧ (⟨(t1 ++ (t2 ++ [105])).toArray⟩ : ByteArray) = s8)
  clear g1 g2 g3 g4 g6 g8 k1 k2 e1 e2 l1 l2
  by_cases z2 : a2 = 0
  · rw [if_pos z2, G.out.1]
    have z2b : (a2 == 0) = true := by simpa using z2
    clear z2
    go_enter Tryd.func43, Tryd.ntmps43
    go_wp2_with (fail)
    refine (i2.out _).mono ?_
    rintro e w2 ⟨rfl, k, hk⟩
    replace hZ := Lib.hid (by rw [hk]; exact ⟨hZ.out.1.draws k, hZ.out.2.trans ⟨rfl, rfl, rfl, Nat.le_refl _, fun _ _ => rfl⟩⟩ : Bk w2 w.heap.size 25 #[.int .i64 a1, .int .i64 a2] ∧ Below w.heap.size w w2)
    clear hk
    have c0 := hZ.out.1.cell 0
    have c1 := hZ.out.1.cell 1
    simp at c0 c1
    go_wp2_with (fail)
    refine (i1.out _).mono ?_
    rintro e w3 ⟨rfl, k, hk⟩
    replace hZ := Lib.hid (by rw [hk]; exact ⟨hZ.out.1.draws k, hZ.out.2.trans ⟨rfl, rfl, rfl, Nat.le_refl _, fun _ _ => rfl⟩⟩ : Bk w3 w.heap.size 25 #[.int .i64 a1, .int .i64 a2] ∧ Below w.heap.size w w3)
    clear hk
    have c0 := hZ.out.1.cell 0
    have c1 := hZ.out.1.cell 1
    simp at c0 c1
    go_wp2_with (fail)
    go_returns
    exact ⟨rfl, hZ.out.2⟩
  · rw [if_neg z2]
    have z2b : (a2 == 0) = false := by simpa using z2
    clear z2
    by_cases z1 : a1 = 0
    · rw [if_pos z1, G.out.2.1]
      have z1b : (a1 == 0) = true := by simpa using z1
      clear z1
      go_enter Tryd.func43, Tryd.ntmps43
      go_wp2_with (fail)
      refine (i2.out _).mono ?_
      rintro e w2 ⟨rfl, k, hk⟩
      replace hZ := Lib.hid (by rw [hk]; exact ⟨hZ.out.1.draws k, hZ.out.2.trans ⟨rfl, rfl, rfl, Nat.le_refl _, fun _ _ => rfl⟩⟩ : Bk w2 w.heap.size 25 #[.int .i64 a1, .int .i64 a2] ∧ Below w.heap.size w w2)
      clear hk
      have c0 := hZ.out.1.cell 0
      have c1 := hZ.out.1.cell 1
      simp at c0 c1
      go_wp2_with (fail)
      go_returns
      exact ⟨rfl, hZ.out.2⟩
    · rw [if_neg z1]
      have z1b : (a1 == 0) = false := by simpa using z1
      clear z1
      by_cases z3 : 0 < a2
      · rw [if_pos z3, G.out.2.2.1]
        go_enter Tryd.func43, Tryd.ntmps43
        go_wp2_with (fail)
        refine (i2.out _).mono ?_
        rintro e w2 ⟨rfl, k, hk⟩
        replace hZ := Lib.hid (by rw [hk]; exact ⟨hZ.out.1.draws k, hZ.out.2.trans ⟨rfl, rfl, rfl, Nat.le_refl _, fun _ _ => rfl⟩⟩ : Bk w2 w.heap.size 25 #[.int .i64 a1, .int .i64 a2] ∧ Below w.heap.size w w2)
        clear hk
        have c0 := hZ.out.1.cell 0
        have c1 := hZ.out.1.cell 1
        simp at c0 c1
        go_wp2_with (fail)
        refine (i1.out _).mono ?_
        rintro e w3 ⟨rfl, k, hk⟩
        replace hZ := Lib.hid (by rw [hk]; exact ⟨hZ.out.1.draws k, hZ.out.2.trans ⟨rfl, rfl, rfl, Nat.le_refl _, fun _ _ => rfl⟩⟩ : Bk w3 w.heap.size 25 #[.int .i64 a1, .int .i64 a2] ∧ Below w.heap.size w w3)
        clear hk
        have c0 := hZ.out.1.cell 0
        have c1 := hZ.out.1.cell 1
        simp at c0 c1
        go_wp2_with (fail)
        go_returns
        exact ⟨rfl, hZ.out.2⟩
      · rw [if_neg z3, G.out.2.2.2]
        go_enter Tryd.func43, Tryd.ntmps43
        go_wp2_with (fail)
        refine (i2.out _).mono ?_
        rintro e w2 ⟨rfl, k, hk⟩
        replace hZ := Lib.hid (by rw [hk]; exact ⟨hZ.out.1.draws k, hZ.out.2.trans ⟨rfl, rfl, rfl, Nat.le_refl _, fun _ _ => rfl⟩⟩ : Bk w2 w.heap.size 25 #[.int .i64 a1, .int .i64 a2] ∧ Below w.heap.size w w2)
        clear hk
        have c0 := hZ.out.1.cell 0
        have c1 := hZ.out.1.cell 1
        simp at c0 c1
        go_wp2_with (fail)
        refine (i1.out _).mono ?_
        rintro e w3 ⟨rfl, k, hk⟩
        replace hZ := Lib.hid (by rw [hk]; exact ⟨hZ.out.1.draws k, hZ.out.2.trans ⟨rfl, rfl, rfl, Nat.le_refl _, fun _ _ => rfl⟩⟩ : Bk w3 w.heap.size 25 #[.int .i64 a1, .int .i64 a2] ∧ Below w.heap.size w w3)
        clear hk
        have c0 := hZ.out.1.cell 0
        have c1 := hZ.out.1.cell 1
        simp at c0 c1
        go_wp2_with (fail)
        go_returns
        exact ⟨rfl, hZ.out.2⟩
end Go.Proofs.YtmmfjonoenmplaaDoor
