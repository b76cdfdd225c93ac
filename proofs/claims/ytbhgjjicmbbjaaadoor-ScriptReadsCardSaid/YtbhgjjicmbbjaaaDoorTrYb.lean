import Derived.Test.YtbhgjjicmbbjaaaDoorTrY
namespace Go.Proofs.YtbhgjjicmbbjaaaDoor
open Go.RowKit
set_option linter.unusedVariables false
set_option linter.unusedSimpArgs false
/-! chapter 17, the document's bare -/
set_option maxRecDepth 100000 in
set_option maxHeartbeats 4000000 in
theorem rbare_any (s : ByteArray) (hs : s.size ≤ 400000) (w : World) : Calls Tryd.prog 58 #[.string s] w fun e w' => (∃ t : ByteArray, e = .returned (.string t) ∧ t.size ≤ s.size ∧ ∀ l, s.data.toList = quoteL l → t.data.toList = l) ∧ Below w.heap.size w w' := by
  have hs' : (s.size : Int) ≤ 400000 := by omega
  by_cases h2 : s.size < 2
  · have h2' : (s.size : Int) < 2 := by omega
    have hno := Lib.hid (fun l (hl : s.data.toList = quoteL l) => by
      have h1 := congrArg List.length hl
      unfold quoteL at h1
      rw [data_size, List.length_cons, List.length_append, List.length_singleton] at h1
      exact (by omega : False))
    go_enter Tryd.func58, Tryd.ntmps58
    go_wp2_with (fail)
    go_returns
    exact ⟨⟨_, rfl, Nat.zero_le _, fun l hl => (hno.out l hl).elim⟩, Below.refl _ _⟩
  have h2' : ¬ (s.size : Int) < 2 := by omega
  obtain ⟨S, hS⟩ : ∃ S, s.extract 1 (s.size - 1) = S := ⟨_, rfl⟩
  have hSz : S.size = s.size - 2 := by rw [← hS, ByteArray.size_extract]; omega
  have hP0 : BareQ s S 0 [] := by
    intro l hl
    refine ⟨[], l, rfl, rfl, ?_⟩
    rw [← hS, ext_list, hl, List.drop_zero]
    unfold quoteL
    rw [List.drop_succ_cons, List.drop_zero]
    have h1 := congrArg List.length hl
    unfold quoteL at h1
    rw [data_size, List.length_cons, List.length_append, List.length_singleton] at h1
    rw [show s.size - 1 - 1 = (l.flatMap qb).length by omega, List.take_left]
  have e1 : ((s.size : Int) - 1).toNat = s.size - 1 := by omega
  replace hP0 := Lib.hid hP0
  have g1 : (1 : Int) ≤ (s.size : Int) - 1 := by omega
  go_enter Tryd.func58, Tryd.ntmps58
  go_wp2_with (fail)
  have hSi : (S.size : Int) ≤ 400000 := by omega
  have hSs := Lib.hid hSz
  clear hS hSz h2 e1 g1 h2'
  go_loopw [3, 4] (fun x3 x4 wr => ∃ (A : Option Addr) (c n k : Nat), x3 = .slice A n c ∧ x4 = .int .i64 k ∧ k ≤ S.size ∧ n ≤ k ∧ Hid (∃ L, L.length = n ∧ wr.ownsRow w.heap.size 5 1 (.slice A n c) n (u8s L) ∧ Below w.heap.size w wr ∧ BareQ s S k L)) (fun _ x4 _ => S.size - (intOf x4).toNat)
  case atStart => exact ⟨none, 0, 0, 0, rfl, rfl, Nat.zero_le _, Nat.le_refl _, Lib.hid ⟨[], rfl, World.ownsRow_nil _ _ _ _, Below.refl _ _, hP0.out⟩⟩
  case round =>
    obtain ⟨A, c, n, k, rfl, rfl, hk, hnk, hQ⟩ := hrel
    obtain ⟨L, hL, hown, hW, hP⟩ := hQ.out
    clear hP0
    by_cases hlt : k < S.size
    · have hlt' : (k : Int) < (S.size : Int) := by omega
      have hby := byte_at S k hlt
      obtain ⟨ch, hch⟩ : ∃ ch, S[k] = ch := ⟨_, rfl⟩
      rw [hch] at hby
      have hidx : ∀ w, (Instr.index 9 (.string S) (.int .i64 (k : Int))).run Tryd.prog w = .ok (.int .u8 (ch.toNat : Int)) w := fun w => by
        rw [run_index_string w 9 S .i64 (k : Int) Tryd.underlying9, dif_pos ⟨by omega, by omega⟩]
        rw [← hch]
        rfl
      clear hch
      by_cases hhex : ch = 92 ∧ k + 3 < S.size
      · obtain ⟨hc, h3⟩ := hhex
        have h3' : (k : Int) + 3 < (S.size : Int) := by omega
        rw [hc] at hidx hby
        have hby2 := byte_at S (k + 2) (by omega)
        have hby3 := byte_at S (k + 3) h3
        obtain ⟨a, ha⟩ : ∃ ch, S[k + 2] = ch := ⟨_, rfl⟩
        obtain ⟨b, hb⟩ : ∃ ch, S[k + 3] = ch := ⟨_, rfl⟩
        rw [ha] at hby2
        rw [hb] at hby3
        have hidx2 : ∀ w, (Instr.index 9 (.string S) (.int .i64 ((k : Int) + 2))).run Tryd.prog w = .ok (.int .u8 (a.toNat : Int)) w := fun w => by
          rw [run_index_string w 9 S .i64 ((k : Int) + 2) Tryd.underlying9, dif_pos ⟨by omega, by omega⟩]
          rw [← ha]
          rfl
        have hidx3 : ∀ w, (Instr.index 9 (.string S) (.int .i64 ((k : Int) + 3))).run Tryd.prog w = .ok (.int .u8 (b.toNat : Int)) w := fun w => by
          rw [run_index_string w 9 S .i64 ((k : Int) + 3) Tryd.underlying9, dif_pos ⟨by omega, by omega⟩]
          rw [← hb]
          rfl
        clear ha hb
        have s1 := fun w => rsix_any a.toNat (UInt8.toNat_lt a) w
        have s2 := fun w => rsix_any b.toNat (UInt8.toNat_lt b) w
        have P1 := sixN_P a.toNat
        have P2 := sixN_P b.toNat
        have hP2 := bareq_hex hP hby hby2 hby3 P1 P2
        have v1b := P1.1
        have v2b := P2.1
        obtain ⟨v1, hv1⟩ : ∃ v, sixN a.toNat = v := ⟨_, rfl⟩
        obtain ⟨v2, hv2⟩ : ∃ v, sixN b.toNat = v := ⟨_, rfl⟩
        simp only [hv1] at s1 v1b hP2
        simp only [hv2] at s2 v2b hP2
        obtain ⟨A2, c2, w5, hrun, hown2, hgr⟩ := u8_appd (w := wr) [UInt8.ofNat (16 * v1 + v2)] hown hW.size (by simp; omega)
        have hB5 := below_grown2 hW hgr hW.size (own_ge hown)
        have hfin : Hid (∃ L, L.length = n + 1 ∧ w5.ownsRow w.heap.size 5 1 (.slice A2 (n + 1) c2) (n + 1) (u8s L) ∧ Below w.heap.size w w5 ∧ BareQ s S (k + 4) L) :=
          ⟨L ++ [UInt8.ofNat (16 * v1 + v2)], by rw [List.length_append, hL]; rfl, hown2, hB5, hP2⟩
        have hmm : (UInt8.ofNat (16 * v1 + v2)).toNat = 16 * v1 + v2 := by rw [UInt8.toNat_ofNat']; omega
        simp only [u8s, List.map_cons, List.map_nil, hmm, List.length_singleton] at hrun
        have ew2 : IntKind.i64.wrap ((k : Int) + 2) = (k : Int) + 2 := by rw [IntKind.wrap_i64]; omega
        have ew3 : IntKind.i64.wrap ((k : Int) + 3) = (k : Int) + 3 := by rw [IntKind.wrap_i64]; omega
        have ew4 : IntKind.i64.wrap (16 * (v1 : Int)) = 16 * (v1 : Int) := by rw [IntKind.wrap_i64]; omega
        have ew5 : IntKind.i64.wrap (16 * (v1 : Int) + (v2 : Int)) = 16 * (v1 : Int) + (v2 : Int) := by rw [IntKind.wrap_i64]; omega
        have ew6 : IntKind.u8.wrap (16 * (v1 : Int) + (v2 : Int)) = 16 * (v1 : Int) + (v2 : Int) := by show ((16 * (v1 : Int) + (v2 : Int)) % 256 : Int) = _; omega
        rw [show (((16 * v1 + v2 : Nat) : Int)) = 16 * (v1 : Int) + (v2 : Int) by omega] at hrun
        have hfx := Lib.hid (And.intro ew2 (And.intro ew3 (And.intro ew4 (And.intro ew5 ew6))))
        replace hrun := Lib.hid hrun
        replace s1 := Lib.hid s1
        replace s2 := Lib.hid s2
        replace hidx2 := Lib.hid hidx2
        replace hidx3 := Lib.hid hidx3
        have hlt9 := Lib.hid (And.intro hlt h3)
        clear hQ hc h3 hlt hown hW hP hby hby2 hby3 hL hP2 P1 P2 hv1 hv2 hown2 hgr hB5 hmm ew2 ew3 ew4 ew5 ew6
        go_upto_region 9 with (fail)
        have i2 := hidx2.out
        have i3 := hidx3.out
        obtain ⟨ew2, ew3, ew4, ew5, ew6⟩ := hfx.out
        clear hidx
        refine wp_region_held_drew (S := fun _ => True) (by kernel_rfl) trivial (fun hHeld => ?_)
        refine wpAnyH_take (i := 0) (oi := { dst := some 30, op := _, type := _, pos := _, after := _, guard := _ }) (v := ?_) rfl (by kernel_rfl) (by kernel_rfl) (by kernel_rfl) (fun _ _ _ h => h) (Or.inl ⟨by rfl, ?_⟩) trivial ?_
        rotate_left
        focus ((intro w hSw); (try dsimp only at hSw); go_simp; (try (with_reducible rfl)))
        try simp only [Act.put, List.setIfInBounds_toArray, List.set_cons_zero, List.set_cons_succ]
        refine wpAnyH_take (i := 1) (oi := { dst := some 31, op := _, type := _, pos := _, after := _, guard := _ }) (v := ?_) rfl (by kernel_rfl) (by kernel_rfl) (by kernel_rfl) (fun _ _ _ h => h) (Or.inl ⟨by rfl, ?_⟩) trivial ?_
        rotate_left
        focus ((intro w hSw); (try dsimp only at hSw); go_simp; (try (with_reducible rfl)))
        try simp only [Act.put, List.setIfInBounds_toArray, List.set_cons_zero, List.set_cons_succ]
        refine wpAnyH_take (i := 2) (oi := { dst := some 32, op := _, type := _, pos := _, after := _, guard := _ }) (v := ?_) rfl (by kernel_rfl) (by kernel_rfl) (by kernel_rfl) (fun _ _ _ h => h) (Or.inl ⟨by rfl, ?_⟩) trivial ?_
        rotate_left
        focus ((intro w hSw); (try dsimp only at hSw); go_simp; (try (with_reducible rfl)))
        try simp only [Act.put, List.setIfInBounds_toArray, List.set_cons_zero, List.set_cons_succ]
        refine wpAnyH_take (i := 3) (oi := { dst := some 33, op := _, type := _, pos := _, after := _, guard := _ }) (v := ?_) rfl (by kernel_rfl) (by kernel_rfl) (by kernel_rfl) (fun _ _ _ h => h) (Or.inl ⟨by rfl, ?_⟩) trivial ?_
        rotate_left
        focus ((intro w hSw); (try dsimp only at hSw); go_simp; (try (with_reducible rfl)))
        try simp only [Act.put, List.setIfInBounds_toArray, List.set_cons_zero, List.set_cons_succ]
        refine wpAnyH_take (i := 4) (oi := { dst := some 34, op := _, type := _, pos := _, after := _, guard := _ }) (v := ?_) rfl (by kernel_rfl) (by kernel_rfl) (by kernel_rfl) (fun _ _ _ h => h) (Or.inl ⟨by rfl, ?_⟩) trivial ?_
        rotate_left
        focus ((intro w hSw); (try dsimp only at hSw); go_simp; (try (with_reducible rfl)))
        try simp only [Act.put, List.setIfInBounds_toArray, List.set_cons_zero, List.set_cons_succ]
        refine wpAnyH_take (i := 7) (oi := { dst := some 37, op := _, type := _, pos := _, after := _, guard := _ }) (v := ?_) rfl (by kernel_rfl) (by kernel_rfl) (by kernel_rfl) (fun _ _ _ h => h) (Or.inl ⟨by rfl, ?_⟩) trivial ?_
        rotate_left
        focus ((intro w hSw); (try dsimp only at hSw); go_simp; (try (with_reducible rfl)))
        try simp only [Act.put, List.setIfInBounds_toArray, List.set_cons_zero, List.set_cons_succ]
        refine wpAnyH_take (i := 8) (oi := { dst := some 38, op := _, type := _, pos := _, after := _, guard := _ }) (v := ?_) rfl (by kernel_rfl) (by kernel_rfl) (by kernel_rfl) (fun _ _ _ h => h) (Or.inl ⟨by rfl, ?_⟩) trivial ?_
        rotate_left
        focus ((intro w hSw); (try dsimp only at hSw); go_simp; (try (with_reducible rfl)))
        try simp only [Act.put, List.setIfInBounds_toArray, List.set_cons_zero, List.set_cons_succ]
        refine wpAnyH_take (i := 9) (oi := { dst := some 39, op := _, type := _, pos := _, after := _, guard := _ }) (v := ?_) rfl (by kernel_rfl) (by kernel_rfl) (by kernel_rfl) (fun _ _ _ h => h) (Or.inl ⟨by rfl, ?_⟩) trivial ?_
        rotate_left
        focus ((intro w hSw); (try dsimp only at hSw); go_simp; (try (with_reducible rfl)))
        try simp only [Act.put, List.setIfInBounds_toArray, List.set_cons_zero, List.set_cons_succ]
        refine wpAnyH_take (i := 10) (oi := { dst := some 40, op := _, type := _, pos := _, after := _, guard := _ }) (v := ?_) rfl (by kernel_rfl) (by kernel_rfl) (by kernel_rfl) (fun _ _ _ h => h) (Or.inl ⟨by rfl, ?_⟩) trivial ?_
        rotate_left
        focus ((intro w hSw); (try dsimp only at hSw); go_simp; (try (with_reducible rfl)))
        try simp only [Act.put, List.setIfInBounds_toArray, List.set_cons_zero, List.set_cons_succ]
        clear hHeld
        refine wpAnyH_ready (rs := [5]) (by kernel_rfl) (by simp) ?_
        refine AllReadyH.cons (o := { dst := some 35, op := _, type := _, pos := _, after := _, guard := _ }) rfl (fun K hK => ?_) AllReadyH.nil
        go_simp
        refine Calls.mono (s1.out _) ?_
        rintro e w1_ ⟨rfl, rfl⟩
        go_wp2_with (fail)
        refine hK.out _ _ trivial (fun hHeld => ?_)
        clear hK K hHeld
        try simp only [Act.put, List.setIfInBounds_toArray, List.set_cons_zero, List.set_cons_succ]
        refine wpAnyH_take (i := 6) (oi := { dst := some 36, op := _, type := _, pos := _, after := _, guard := _ }) (v := ?_) rfl (by kernel_rfl) (by kernel_rfl) (by kernel_rfl) (fun _ _ _ h => h) (Or.inl ⟨by rfl, ?_⟩) trivial ?_
        rotate_left
        focus ((intro w hSw); (try dsimp only at hSw); go_simp; (try (with_reducible rfl)))
        try simp only [Act.put, List.setIfInBounds_toArray, List.set_cons_zero, List.set_cons_succ]
        refine wpAnyH_ready (rs := [11]) (by kernel_rfl) (by simp) ?_
        refine AllReadyH.cons (o := { dst := some 41, op := _, type := _, pos := _, after := _, guard := _ }) rfl (fun K hK => ?_) AllReadyH.nil
        go_simp
        refine Calls.mono (s2.out _) ?_
        rintro e w2_ ⟨rfl, rfl⟩
        go_wp2_with (fail)
        refine hK.out _ _ trivial (fun hHeld => ?_)
        clear hK K hHeld
        try simp only [Act.put, List.setIfInBounds_toArray, List.set_cons_zero, List.set_cons_succ]
        refine wpAnyH_take (i := 12) (oi := { dst := some 42, op := _, type := _, pos := _, after := _, guard := _ }) (v := ?_) rfl (by kernel_rfl) (by kernel_rfl) (by kernel_rfl) (fun _ _ _ h => h) (Or.inl ⟨by rfl, ?_⟩) trivial ?_
        rotate_left
        focus ((intro w hSw); (try dsimp only at hSw); go_simp; (try (with_reducible rfl)))
        try simp only [Act.put, List.setIfInBounds_toArray, List.set_cons_zero, List.set_cons_succ]
        refine wpAnyH_take (i := 13) (oi := { dst := some 43, op := _, type := _, pos := _, after := _, guard := _ }) (v := ?_) rfl (by kernel_rfl) (by kernel_rfl) (by kernel_rfl) (fun _ _ _ h => h) (Or.inl ⟨by rfl, ?_⟩) trivial ?_
        rotate_left
        focus ((intro w hSw); (try dsimp only at hSw); go_simp; (try (with_reducible rfl)))
        try simp only [Act.put, List.setIfInBounds_toArray, List.set_cons_zero, List.set_cons_succ]
        refine wpAnyH_ready (rs := [14]) (by kernel_rfl) (by simp) ?_
        refine AllReadyH.cons (o := { dst := some 44, op := _, type := _, pos := _, after := _, guard := _ }) rfl (fun K hK => ?_) AllReadyH.nil
        go_simp
        refine hK _ _ trivial (fun hHeld => ?_)
        clear hK K hHeld
        try simp only [Act.put, List.setIfInBounds_toArray, List.set_cons_zero, List.set_cons_succ]
        refine wpAnyH_ready (rs := [15]) (by kernel_rfl) (by simp) ?_
        refine AllReadyH.cons (o := { dst := some 45, op := _, type := _, pos := _, after := _, guard := _ }) rfl (fun K hK => ?_) AllReadyH.nil
        refine step_append_run rfl (.tmp 30) (.tmp 44) 77 rfl (.slice A n c) _ _ rfl rfl hrun.out ?_
        refine hK _ _ trivial (fun hHeld => ?_)
        clear hK K
        try simp only [Act.put, List.setIfInBounds_toArray, List.set_cons_zero, List.set_cons_succ]
        refine wpAnyH_take (i := 16) (oi := { dst := some 3, op := _, type := _, pos := _, after := _, guard := _ }) (v := ?_) rfl (by kernel_rfl) (by kernel_rfl) (by kernel_rfl) (fun _ _ _ h => h) (Or.inl ⟨by rfl, ?_⟩) trivial ?_
        rotate_left
        focus ((intro w hSw); (try dsimp only at hSw); go_simp; (try (with_reducible rfl)))
        try simp only [Act.put, List.setIfInBounds_toArray, List.set_cons_zero, List.set_cons_succ]
        refine wpAnyH_done (by kernel_rfl) ?_ _
        go_wp2_with (fail)
        exact ⟨⟨A2, c2, n + 1, k + 4, rfl, rfl, by have := hlt9.out; omega, by omega, hfin⟩, by simp [intOf]; have := hlt9.out; omega⟩
      · have hP2 := bareq_one hP hby (by
          by_cases h : ch = 92
          · right; have : ¬ k + 3 < S.size := fun h2 => hhex ⟨h, h2⟩; omega
          · exact .inl h)
        obtain ⟨A2, c2, w5, hrun, hown2, hgr⟩ := u8_app (w := wr) [ch] hown hW.size (by simp; omega)
        have hB5 := below_grown2 hW hgr hW.size (own_ge hown)
        have hfin : Hid (∃ L, L.length = n + 1 ∧ w5.ownsRow w.heap.size 5 1 (.slice A2 (n + 1) c2) (n + 1) (u8s L) ∧ Below w.heap.size w w5 ∧ BareQ s S (k + 1) L) :=
          ⟨L ++ [ch], by rw [List.length_append, hL]; rfl, hown2, hB5, hP2⟩
        simp [u8s] at hrun
        replace hrun := Lib.hid hrun
        have hlt9 := Lib.hid hlt
        by_cases hc : ch = 92
        · have h3' : ¬ (k : Int) + 3 < (S.size : Int) := fun h => hhex ⟨hc, by omega⟩
          rw [hc] at hidx
          have hrun2 := hrun
          rw [hc] at hrun2
          clear hQ hown hP hW hL hby hP2 hown2 hgr hB5 hhex hc hrun hlt
          go_wp2_with (at_builtin; refine wpList_append_run rfl (.tmp 48) (.tmp 52) 77 rfl (.slice A n c) _ _ rfl rfl hrun2.out ?_)
          exact ⟨⟨A2, c2, n + 1, k + 1, rfl, rfl, by have := hlt9.out; omega, by omega, hfin⟩, by simp [intOf]; have := hlt9.out; omega⟩
        · have hcn : ((ch.toNat : Int) == 92) = false := by
            simp only [beq_eq_false_iff_ne, ne_eq]
            intro h
            exact hc (UInt8.toNat_inj.1 (by show ch.toNat = 92; omega))
          obtain ⟨z, hz⟩ : ∃ z, ch.toNat = z := ⟨_, rfl⟩
          rw [hz] at hidx hcn hrun
          clear hQ hown hP hW hL hby hP2 hown2 hgr hB5 hhex hc hlt hz
          go_wp2_with (at_builtin; refine wpList_append_run rfl (.tmp 48) (.tmp 52) 77 rfl (.slice A n c) _ _ rfl rfl hrun.out ?_)
          exact ⟨⟨A2, c2, n + 1, k + 1, rfl, rfl, by have := hlt9.out; omega, by omega, hfin⟩, by simp [intOf]; have := hlt9.out; omega⟩
    · have hlt' : ¬ (k : Int) < (S.size : Int) := by omega
      obtain rfl : k = S.size := by omega
      subst hL
      have hst := own_string wr w.heap.size c A L hown
      have hfin : ∀ l, s.data.toList = quoteL l → L = l := by
        intro l hl
        obtain ⟨l1, l2, e1, e2, e3⟩ := hP l hl
        rw [List.drop_eq_nil_of_le (by rw [data_size]; exact Nat.le_refl _)] at e3
        have h2 : l2 = [] := fqb_inj (l := l2) (m := []) e3.symm
        rw [e1, h2, e2]; simp
      have hend := Lib.hid (And.intro hnk (And.intro hfin (And.intro hW hSs.out)))
      clear hQ hown hP hfin hW hnk
      go_wp2_with (fail)
      go_returns
      exact ⟨⟨_, rfl, by rw [ba_size]; have := hend.out.1; have := hend.out.2.2.2; omega, fun l hl => by rw [ba_list]; exact hend.out.2.1 l hl⟩, hend.out.2.2.1⟩
end Go.Proofs.YtbhgjjicmbbjaaaDoor
