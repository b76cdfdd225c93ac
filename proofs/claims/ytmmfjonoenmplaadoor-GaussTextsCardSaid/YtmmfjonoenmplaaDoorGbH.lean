import Derived.Test.YtmmfjonoenmplaaDoorGbF
namespace Go.Proofs.YtmmfjonoenmplaaDoor
open Go.RowKit Go.Extern.Stop Go.Stop Go.Extern
set_option linter.unusedVariables false
set_option linter.unusedSimpArgs false
/-! chapter 2: the document's number -/
def NvQ (D : List UInt8) (n : Nat) : Prop := n ≤ 167772169 ∧ (n = decV D ∨ (16777216 < n ∧ 16777216 < decV D))
theorem NvQ.zero : NvQ [] 0 := ⟨by omega, .inl rfl⟩
theorem NvQ.low {D : List UInt8} {n : Nat} {c : UInt8} (h : NvQ D n) (hn : n ≤ 16777216) (hd : c.toNat ≤ 57) : NvQ (D ++ [c]) (10 * n + (c.toNat - 48)) := by
  obtain ⟨h1, h2⟩ := h
  unfold NvQ
  rw [decV_push]
  omega
theorem NvQ.high {D : List UInt8} {n : Nat} {c : UInt8} (h : NvQ D n) (hn : ¬ n ≤ 16777216) : NvQ (D ++ [c]) n := by
  obtain ⟨h1, h2⟩ := h
  unfold NvQ
  rw [decV_push]
  omega
def NbQ (s : ByteArray) (e : Ending) : Prop :=
  (okD s.data.toList = true ∧ ∃ n : Int, -200000000 ≤ n ∧ n ≤ 200000000 ∧ Cl n (vlD s.data.toList) ∧ e = .returned (.tuple #[.int .i64 (iN s.data.toList : Nat), .int .i64 n, .bool true])) ∨
  (okD s.data.toList = false ∧ e = .returned (.tuple #[.int .i64 0, .int .i64 0, .bool false]))
theorem take_push {L : List UInt8} {g i : Nat} {c : UInt8} (h : g ≤ i) (hc : L[i]? = some c) : (L.drop g).take (i + 1 - g) = (L.drop g).take (i - g) ++ [c] := by
  rw [show i + 1 - g = (i - g) + 1 by omega, List.take_add_one, List.getElem?_drop, show g + (i - g) = i by omega, hc]
  rfl
theorem dgs_take {L : List UInt8} {G i : Nat} (hG : sgD L = G) (hK : iN L = i) : (L.drop G).take (i - G) = dgs L := by
  rw [← hK, ← hG]
  unfold iN
  rw [Nat.add_sub_cancel_left]
  exact (takeW_eq isD (L.drop (sgD L))).symm
theorem vl_cl {L : List UInt8} {n : Nat} (h : NvQ (dgs L) n) : Cl (if sgD L = 1 then -(n : Int) else (n : Int)) (vlD L) := by
  obtain ⟨h1, h2⟩ := h
  unfold Cl vlD
  rcases (sgD_le L).2 with g | g
  · rw [g]
    simp
    omega
  · rw [g]
    simp
    omega
set_option maxRecDepth 100000 in
set_option maxHeartbeats 4000000 in
theorem number_any (s : ByteArray) (hs : s.size ≤ 281474976710656) (w : World) : Calls Tryd.prog 59 #[.string s] w (fun e w' => NbQ s e ∧ w' = w) := by
  have hs' : (s.size : Int) ≤ 281474976710656 := by omega
  by_cases h0 : 0 < s.size
  · have h0' : (0 : Int) < (s.size : Int) := by omega
    obtain ⟨z0, hz0⟩ : ∃ z, s[0].toNat = z := ⟨_, rfl⟩
    have hidx0 := idx_run0 s z0 h0 hz0
    by_cases h45 : z0 = 45
    · have hG : Hid (sgD s.data.toList = 1) := by
        show sgD s.data.toList = 1
        unfold sgD
        rw [byteq s 0 h0, if_pos]
        rw [Option.some_inj]
        exact UInt8.toNat_inj.1 (by rw [hz0, h45]; rfl)
      have hsz0 : 1 ≤ s.size := h0
      subst h45
      clear hz0 h0
      go_enter Tryd.func59, Tryd.ntmps59
      go_wp2_with (fail)
      clear hidx0
      go_loop [5, 7] (fun x5 x7 => ∃ i n : Nat, x5 = .int .i64 i ∧ x7 = .int .i64 n ∧ 1 ≤ i ∧ i ≤ s.size ∧ n ≤ 167772169 ∧ Hid (UpD s.data.toList 1 i ∧ NvQ ((s.data.toList.drop 1).take (i - 1)) n)) (fun x5 _ => s.size - (intOf x5).toNat)
      case atStart => exact ⟨1, 0, rfl, rfl, Nat.le_refl _, hsz0, by decide, Lib.hid ⟨UpD.zero _ _, by rw [Nat.sub_self, List.take_zero]; exact NvQ.zero⟩⟩
      case round =>
        obtain ⟨i, n, rfl, rfl, hgi, his, hnb, hQ⟩ := hrel
        by_cases hlt : i < s.size
        · have hlt' : (i : Int) < (s.size : Int) := by omega
          have hby := byteq s i hlt
          obtain ⟨ch, hch⟩ : ∃ ch, s[i] = ch := ⟨_, rfl⟩
          rw [hch] at hby
          obtain ⟨z, hz⟩ : ∃ z, ch.toNat = z := ⟨_, rfl⟩
          have hidx := idx_run s i z hlt (by rw [hch]; exact hz)
          by_cases hd : 48 ≤ z ∧ z ≤ 57
          · have hU := hQ.out.1.next hby (isD_iff.2 (by rw [hz]; exact hd))
            have d1 : (48 : Int) ≤ (z : Int) := by omega
            have d2 : (z : Int) ≤ 57 := by omega
            by_cases hn : n ≤ 16777216
            · have hV := hQ.out.2.low (c := ch) hn (by rw [hz]; exact hd.2)
              rw [← take_push hgi hby, hz] at hV
              have hQ2 := Lib.hid (And.intro hU hV)
              have hb9 := hV.1
              obtain ⟨M, hM⟩ : ∃ M, 10 * n + (z - 48) = M := ⟨_, rfl⟩
              rw [hM] at hQ2 hb9
              have hMi : Hid (M = 10 * n + (z - 48)) := Lib.hid hM.symm
              have hnI : (n : Int) ≤ 16777216 := by omega
              clear hQ hby hch hz hU hV hM hn
              go_wp2_with (fail)
              exact ⟨⟨i + 1, M, rfl, by have := hMi.out; simp; omega, by omega, by omega, hb9, hQ2⟩, by simp [intOf]; omega⟩
            · have hV := hQ.out.2.high (c := ch) hn
              rw [← take_push hgi hby] at hV
              have hQ2 := Lib.hid (And.intro hU hV)
              have hnI : ¬ (n : Int) ≤ 16777216 := by omega
              clear hQ hby hch hz hU hV hn
              go_wp2_with (fail)
              exact ⟨⟨i + 1, n, rfl, rfl, by omega, by omega, hnb, hQ2⟩, by simp [intOf]; omega⟩
          · have hK : iN s.data.toList = i := iN_is (by rw [hG.out]; exact hgi) (by rw [data_size]; exact his) (by rw [hG.out]; exact hQ.out.1) (fun c hc => by
              rw [hby] at hc
              rw [← Option.some.inj hc]
              cases h : isD ch
              · rfl
              · exact absurd (isD_iff.1 h) (by rw [hz]; exact hd))
            have hd2 : ¬ (48 : Int) ≤ (z : Int) ∨ ((48 : Int) ≤ (z : Int) ∧ ¬ (z : Int) ≤ 57) := by omega
            have hN := hQ.out.2
            clear hQ hby hch hz hd
            rcases hd2 with d1 | ⟨d1, d2⟩
            · skip
              rw [dgs_take hG.out hK] at hN
              have hcl := vl_cl hN
              rw [hG.out] at hcl
              replace hcl := Lib.hid hcl
              by_cases hd : i = 1
              · have hno : Hid (okD s.data.toList = false) := by
                  show okD s.data.toList = false
                  cases h : okD s.data.toList
                  · rfl
                  · have h1 := dgs_lt (okD_iff.1 h).1
                    rw [hG.out, hK] at h1
                    omega
                have hdI : ((i : Int) == (1 : Int)) = true := by simp; omega
                replace hd := Lib.hid hd
                clear hN hK hcl
                go_wp2_with (fail)
                all_goals go_returns
                all_goals exact ⟨.inr ⟨hno.out, rfl⟩, rfl⟩
              · have hlt9 : 1 < s.size := by omega
                have hne : dgs s.data.toList ≠ [] := by
                  intro h
                  have h1 : iN s.data.toList = sgD s.data.toList := by unfold iN; rw [h]; rfl
                  rw [hK, hG.out] at h1
                  exact hd h1
                have hok := okD_z hG.out hK hne hlt9 rfl
                obtain ⟨z0, hz0⟩ : ∃ z, s[1].toNat = z := ⟨_, rfl⟩
                rw [hz0] at hok
                have hidx0 : ∀ w, (Instr.index 9 (.string s) (.int .i64 (1 : Int))).run Tryd.prog w = .ok (.int .u8 (z0 : Int)) w := fun w => idx_run s 1 z0 hlt9 hz0 w
                have hGI : (1 : Int) < (s.size : Int) := by omega
                have hdI : ((i : Int) == (1 : Int)) = false := by simp; omega
                have hgi2 : (1 : Int) < (i : Int) := by omega
                clear hz0 hN hne
                replace hK := Lib.hid hK
                by_cases hbad : z0 = 48 ∧ 1 < i
                · obtain ⟨b1, b2⟩ := hbad
                  have b3 : (1 : Int) < (i : Int) := by omega
                  have hno : Hid (okD s.data.toList = false) := by
                    show okD s.data.toList = false
                    cases h : okD s.data.toList
                    · rfl
                    · exact absurd ⟨b1, b2⟩ (hok.1 h)
                  clear hok
                  subst b1
                  go_wp2_with (fail)
                  all_goals go_returns
                  all_goals exact ⟨.inr ⟨hno.out, rfl⟩, rfl⟩
                · have hyes := Lib.hid (hok.2 hbad)
                  have hcase : ((z0 : Int) == 48) = false ∨ (((z0 : Int) == 48) = true ∧ ¬ (1 : Int) < (i : Int)) := by
                    by_cases h : z0 = 48
                    · right; exact ⟨by simp; omega, fun h2 => hbad ⟨h, by omega⟩⟩
                    · left; simp; omega
                  clear hok hbad
                  rcases hcase with b1 | ⟨b1, b2⟩
                  all_goals
                    go_wp2_with (fail)
                    all_goals go_returns
                    all_goals exact ⟨.inl ⟨hyes.out, (if (1 : Nat) = 1 then -(n : Int) else (n : Int)), by simp <;> omega, by simp <;> omega, hcl.out, by rw [hK.out] <;> rfl⟩, rfl⟩
            · skip
              rw [dgs_take hG.out hK] at hN
              have hcl := vl_cl hN
              rw [hG.out] at hcl
              replace hcl := Lib.hid hcl
              by_cases hd : i = 1
              · have hno : Hid (okD s.data.toList = false) := by
                  show okD s.data.toList = false
                  cases h : okD s.data.toList
                  · rfl
                  · have h1 := dgs_lt (okD_iff.1 h).1
                    rw [hG.out, hK] at h1
                    omega
                have hdI : ((i : Int) == (1 : Int)) = true := by simp; omega
                replace hd := Lib.hid hd
                clear hN hK hcl
                go_wp2_with (fail)
                all_goals go_returns
                all_goals exact ⟨.inr ⟨hno.out, rfl⟩, rfl⟩
              · have hlt9 : 1 < s.size := by omega
                have hne : dgs s.data.toList ≠ [] := by
                  intro h
                  have h1 : iN s.data.toList = sgD s.data.toList := by unfold iN; rw [h]; rfl
                  rw [hK, hG.out] at h1
                  exact hd h1
                have hok := okD_z hG.out hK hne hlt9 rfl
                obtain ⟨z0, hz0⟩ : ∃ z, s[1].toNat = z := ⟨_, rfl⟩
                rw [hz0] at hok
                have hidx0 : ∀ w, (Instr.index 9 (.string s) (.int .i64 (1 : Int))).run Tryd.prog w = .ok (.int .u8 (z0 : Int)) w := fun w => idx_run s 1 z0 hlt9 hz0 w
                have hGI : (1 : Int) < (s.size : Int) := by omega
                have hdI : ((i : Int) == (1 : Int)) = false := by simp; omega
                have hgi2 : (1 : Int) < (i : Int) := by omega
                clear hz0 hN hne
                replace hK := Lib.hid hK
                by_cases hbad : z0 = 48 ∧ 1 < i
                · obtain ⟨b1, b2⟩ := hbad
                  have b3 : (1 : Int) < (i : Int) := by omega
                  have hno : Hid (okD s.data.toList = false) := by
                    show okD s.data.toList = false
                    cases h : okD s.data.toList
                    · rfl
                    · exact absurd ⟨b1, b2⟩ (hok.1 h)
                  clear hok
                  subst b1
                  go_wp2_with (fail)
                  all_goals go_returns
                  all_goals exact ⟨.inr ⟨hno.out, rfl⟩, rfl⟩
                · have hyes := Lib.hid (hok.2 hbad)
                  have hcase : ((z0 : Int) == 48) = false ∨ (((z0 : Int) == 48) = true ∧ ¬ (1 : Int) < (i : Int)) := by
                    by_cases h : z0 = 48
                    · right; exact ⟨by simp; omega, fun h2 => hbad ⟨h, by omega⟩⟩
                    · left; simp; omega
                  clear hok hbad
                  rcases hcase with b1 | ⟨b1, b2⟩
                  all_goals
                    go_wp2_with (fail)
                    all_goals go_returns
                    all_goals exact ⟨.inl ⟨hyes.out, (if (1 : Nat) = 1 then -(n : Int) else (n : Int)), by simp <;> omega, by simp <;> omega, hcl.out, by rw [hK.out] <;> rfl⟩, rfl⟩
        · have hlt' : ¬ (i : Int) < (s.size : Int) := by omega
          have hK : iN s.data.toList = i := iN_is (by rw [hG.out]; exact hgi) (by rw [data_size]; exact his) (by rw [hG.out]; exact hQ.out.1) (fun c hc => by
            have := (List.getElem?_eq_some_iff.1 hc).1
            rw [data_size] at this
            omega)
          have hN := hQ.out.2
          clear hQ
          rw [dgs_take hG.out hK] at hN
          have hcl := vl_cl hN
          rw [hG.out] at hcl
          replace hcl := Lib.hid hcl
          by_cases hd : i = 1
          · have hno : Hid (okD s.data.toList = false) := by
              show okD s.data.toList = false
              cases h : okD s.data.toList
              · rfl
              · have h1 := dgs_lt (okD_iff.1 h).1
                rw [hG.out, hK] at h1
                omega
            have hdI : ((i : Int) == (1 : Int)) = true := by simp; omega
            replace hd := Lib.hid hd
            clear hN hK hcl
            go_wp2_with (fail)
            all_goals go_returns
            all_goals exact ⟨.inr ⟨hno.out, rfl⟩, rfl⟩
          · have hlt9 : 1 < s.size := by omega
            have hne : dgs s.data.toList ≠ [] := by
              intro h
              have h1 : iN s.data.toList = sgD s.data.toList := by unfold iN; rw [h]; rfl
              rw [hK, hG.out] at h1
              exact hd h1
            have hok := okD_z hG.out hK hne hlt9 rfl
            obtain ⟨z0, hz0⟩ : ∃ z, s[1].toNat = z := ⟨_, rfl⟩
            rw [hz0] at hok
            have hidx0 : ∀ w, (Instr.index 9 (.string s) (.int .i64 (1 : Int))).run Tryd.prog w = .ok (.int .u8 (z0 : Int)) w := fun w => idx_run s 1 z0 hlt9 hz0 w
            have hGI : (1 : Int) < (s.size : Int) := by omega
            have hdI : ((i : Int) == (1 : Int)) = false := by simp; omega
            have hgi2 : (1 : Int) < (i : Int) := by omega
            clear hz0 hN hne
            replace hK := Lib.hid hK
            by_cases hbad : z0 = 48 ∧ 1 < i
            · obtain ⟨b1, b2⟩ := hbad
              have b3 : (1 : Int) < (i : Int) := by omega
              have hno : Hid (okD s.data.toList = false) := by
                show okD s.data.toList = false
                cases h : okD s.data.toList
                · rfl
                · exact absurd ⟨b1, b2⟩ (hok.1 h)
              clear hok
              subst b1
              go_wp2_with (fail)
              all_goals go_returns
              all_goals exact ⟨.inr ⟨hno.out, rfl⟩, rfl⟩
            · have hyes := Lib.hid (hok.2 hbad)
              have hcase : ((z0 : Int) == 48) = false ∨ (((z0 : Int) == 48) = true ∧ ¬ (1 : Int) < (i : Int)) := by
                by_cases h : z0 = 48
                · right; exact ⟨by simp; omega, fun h2 => hbad ⟨h, by omega⟩⟩
                · left; simp; omega
              clear hok hbad
              rcases hcase with b1 | ⟨b1, b2⟩
              all_goals
                go_wp2_with (fail)
                all_goals go_returns
                all_goals exact ⟨.inl ⟨hyes.out, (if (1 : Nat) = 1 then -(n : Int) else (n : Int)), by simp <;> omega, by simp <;> omega, hcl.out, by rw [hK.out] <;> rfl⟩, rfl⟩
    · have hG : Hid (sgD s.data.toList = 0) := by
        show sgD s.data.toList = 0
        unfold sgD
        rw [byteq s 0 h0, if_neg]
        rw [Option.some_inj]
        intro h
        exact h45 (by rw [← hz0, h]; rfl)
      have hsz0 : 0 ≤ s.size := Nat.zero_le _
      have h45' : ((z0 : Int) == 45) = false := by simp; omega
      clear hz0 h0 h45
      go_enter Tryd.func59, Tryd.ntmps59
      go_wp2_with (fail)
      clear hidx0 h45'
      go_loop [5, 7] (fun x5 x7 => ∃ i n : Nat, x5 = .int .i64 i ∧ x7 = .int .i64 n ∧ 0 ≤ i ∧ i ≤ s.size ∧ n ≤ 167772169 ∧ Hid (UpD s.data.toList 0 i ∧ NvQ ((s.data.toList.drop 0).take (i - 0)) n)) (fun x5 _ => s.size - (intOf x5).toNat)
      case atStart => exact ⟨0, 0, rfl, rfl, Nat.le_refl _, hsz0, by decide, Lib.hid ⟨UpD.zero _ _, by rw [Nat.sub_self, List.take_zero]; exact NvQ.zero⟩⟩
      case round =>
        obtain ⟨i, n, rfl, rfl, hgi, his, hnb, hQ⟩ := hrel
        by_cases hlt : i < s.size
        · have hlt' : (i : Int) < (s.size : Int) := by omega
          have hby := byteq s i hlt
          obtain ⟨ch, hch⟩ : ∃ ch, s[i] = ch := ⟨_, rfl⟩
          rw [hch] at hby
          obtain ⟨z, hz⟩ : ∃ z, ch.toNat = z := ⟨_, rfl⟩
          have hidx := idx_run s i z hlt (by rw [hch]; exact hz)
          by_cases hd : 48 ≤ z ∧ z ≤ 57
          · have hU := hQ.out.1.next hby (isD_iff.2 (by rw [hz]; exact hd))
            have d1 : (48 : Int) ≤ (z : Int) := by omega
            have d2 : (z : Int) ≤ 57 := by omega
            by_cases hn : n ≤ 16777216
            · have hV := hQ.out.2.low (c := ch) hn (by rw [hz]; exact hd.2)
              rw [← take_push hgi hby, hz] at hV
              have hQ2 := Lib.hid (And.intro hU hV)
              have hb9 := hV.1
              obtain ⟨M, hM⟩ : ∃ M, 10 * n + (z - 48) = M := ⟨_, rfl⟩
              rw [hM] at hQ2 hb9
              have hMi : Hid (M = 10 * n + (z - 48)) := Lib.hid hM.symm
              have hnI : (n : Int) ≤ 16777216 := by omega
              clear hQ hby hch hz hU hV hM hn
              go_wp2_with (fail)
              exact ⟨⟨i + 1, M, rfl, by have := hMi.out; simp; omega, by omega, by omega, hb9, hQ2⟩, by simp [intOf]; omega⟩
            · have hV := hQ.out.2.high (c := ch) hn
              rw [← take_push hgi hby] at hV
              have hQ2 := Lib.hid (And.intro hU hV)
              have hnI : ¬ (n : Int) ≤ 16777216 := by omega
              clear hQ hby hch hz hU hV hn
              go_wp2_with (fail)
              exact ⟨⟨i + 1, n, rfl, rfl, by omega, by omega, hnb, hQ2⟩, by simp [intOf]; omega⟩
          · have hK : iN s.data.toList = i := iN_is (by rw [hG.out]; exact hgi) (by rw [data_size]; exact his) (by rw [hG.out]; exact hQ.out.1) (fun c hc => by
              rw [hby] at hc
              rw [← Option.some.inj hc]
              cases h : isD ch
              · rfl
              · exact absurd (isD_iff.1 h) (by rw [hz]; exact hd))
            have hd2 : ¬ (48 : Int) ≤ (z : Int) ∨ ((48 : Int) ≤ (z : Int) ∧ ¬ (z : Int) ≤ 57) := by omega
            have hN := hQ.out.2
            clear hQ hby hch hz hd
            rcases hd2 with d1 | ⟨d1, d2⟩
            · skip
              rw [dgs_take hG.out hK] at hN
              have hcl := vl_cl hN
              rw [hG.out] at hcl
              replace hcl := Lib.hid hcl
              by_cases hd : i = 0
              · have hno : Hid (okD s.data.toList = false) := by
                  show okD s.data.toList = false
                  cases h : okD s.data.toList
                  · rfl
                  · have h1 := dgs_lt (okD_iff.1 h).1
                    rw [hG.out, hK] at h1
                    omega
                have hdI : ((i : Int) == (0 : Int)) = true := by simp; omega
                replace hd := Lib.hid hd
                clear hN hK hcl
                go_wp2_with (fail)
                all_goals go_returns
                all_goals exact ⟨.inr ⟨hno.out, rfl⟩, rfl⟩
              · have hlt9 : 0 < s.size := by omega
                have hne : dgs s.data.toList ≠ [] := by
                  intro h
                  have h1 : iN s.data.toList = sgD s.data.toList := by unfold iN; rw [h]; rfl
                  rw [hK, hG.out] at h1
                  exact hd h1
                have hok := okD_z hG.out hK hne hlt9 rfl
                obtain ⟨z0, hz0⟩ : ∃ z, s[0].toNat = z := ⟨_, rfl⟩
                rw [hz0] at hok
                have hidx0 : ∀ w, (Instr.index 9 (.string s) (.int .i64 (0 : Int))).run Tryd.prog w = .ok (.int .u8 (z0 : Int)) w := fun w => idx_run s 0 z0 hlt9 hz0 w
                have hGI : (0 : Int) < (s.size : Int) := by omega
                have hdI : ((i : Int) == (0 : Int)) = false := by simp; omega
                have hgi2 : (0 : Int) < (i : Int) := by omega
                clear hz0 hN hne
                replace hK := Lib.hid hK
                by_cases hbad : z0 = 48 ∧ 1 < i
                · obtain ⟨b1, b2⟩ := hbad
                  have b3 : (1 : Int) < (i : Int) := by omega
                  have hno : Hid (okD s.data.toList = false) := by
                    show okD s.data.toList = false
                    cases h : okD s.data.toList
                    · rfl
                    · exact absurd ⟨b1, b2⟩ (hok.1 h)
                  clear hok
                  subst b1
                  go_wp2_with (fail)
                  all_goals go_returns
                  all_goals exact ⟨.inr ⟨hno.out, rfl⟩, rfl⟩
                · have hyes := Lib.hid (hok.2 hbad)
                  have hcase : ((z0 : Int) == 48) = false ∨ (((z0 : Int) == 48) = true ∧ ¬ (1 : Int) < (i : Int)) := by
                    by_cases h : z0 = 48
                    · right; exact ⟨by simp; omega, fun h2 => hbad ⟨h, by omega⟩⟩
                    · left; simp; omega
                  clear hok hbad
                  rcases hcase with b1 | ⟨b1, b2⟩
                  all_goals
                    go_wp2_with (fail)
                    all_goals go_returns
                    all_goals exact ⟨.inl ⟨hyes.out, (if (0 : Nat) = 1 then -(n : Int) else (n : Int)), by simp <;> omega, by simp <;> omega, hcl.out, by rw [hK.out] <;> rfl⟩, rfl⟩
            · skip
              rw [dgs_take hG.out hK] at hN
              have hcl := vl_cl hN
              rw [hG.out] at hcl
              replace hcl := Lib.hid hcl
              by_cases hd : i = 0
              · have hno : Hid (okD s.data.toList = false) := by
                  show okD s.data.toList = false
                  cases h : okD s.data.toList
                  · rfl
                  · have h1 := dgs_lt (okD_iff.1 h).1
                    rw [hG.out, hK] at h1
                    omega
                have hdI : ((i : Int) == (0 : Int)) = true := by simp; omega
                replace hd := Lib.hid hd
                clear hN hK hcl
                go_wp2_with (fail)
                all_goals go_returns
                all_goals exact ⟨.inr ⟨hno.out, rfl⟩, rfl⟩
              · have hlt9 : 0 < s.size := by omega
                have hne : dgs s.data.toList ≠ [] := by
                  intro h
                  have h1 : iN s.data.toList = sgD s.data.toList := by unfold iN; rw [h]; rfl
                  rw [hK, hG.out] at h1
                  exact hd h1
                have hok := okD_z hG.out hK hne hlt9 rfl
                obtain ⟨z0, hz0⟩ : ∃ z, s[0].toNat = z := ⟨_, rfl⟩
                rw [hz0] at hok
                have hidx0 : ∀ w, (Instr.index 9 (.string s) (.int .i64 (0 : Int))).run Tryd.prog w = .ok (.int .u8 (z0 : Int)) w := fun w => idx_run s 0 z0 hlt9 hz0 w
                have hGI : (0 : Int) < (s.size : Int) := by omega
                have hdI : ((i : Int) == (0 : Int)) = false := by simp; omega
                have hgi2 : (0 : Int) < (i : Int) := by omega
                clear hz0 hN hne
                replace hK := Lib.hid hK
                by_cases hbad : z0 = 48 ∧ 1 < i
                · obtain ⟨b1, b2⟩ := hbad
                  have b3 : (1 : Int) < (i : Int) := by omega
                  have hno : Hid (okD s.data.toList = false) := by
                    show okD s.data.toList = false
                    cases h : okD s.data.toList
                    · rfl
                    · exact absurd ⟨b1, b2⟩ (hok.1 h)
                  clear hok
                  subst b1
                  go_wp2_with (fail)
                  all_goals go_returns
                  all_goals exact ⟨.inr ⟨hno.out, rfl⟩, rfl⟩
                · have hyes := Lib.hid (hok.2 hbad)
                  have hcase : ((z0 : Int) == 48) = false ∨ (((z0 : Int) == 48) = true ∧ ¬ (1 : Int) < (i : Int)) := by
                    by_cases h : z0 = 48
                    · right; exact ⟨by simp; omega, fun h2 => hbad ⟨h, by omega⟩⟩
                    · left; simp; omega
                  clear hok hbad
                  rcases hcase with b1 | ⟨b1, b2⟩
                  all_goals
                    go_wp2_with (fail)
                    all_goals go_returns
                    all_goals exact ⟨.inl ⟨hyes.out, (if (0 : Nat) = 1 then -(n : Int) else (n : Int)), by simp <;> omega, by simp <;> omega, hcl.out, by rw [hK.out] <;> rfl⟩, rfl⟩
        · have hlt' : ¬ (i : Int) < (s.size : Int) := by omega
          have hK : iN s.data.toList = i := iN_is (by rw [hG.out]; exact hgi) (by rw [data_size]; exact his) (by rw [hG.out]; exact hQ.out.1) (fun c hc => by
            have := (List.getElem?_eq_some_iff.1 hc).1
            rw [data_size] at this
            omega)
          have hN := hQ.out.2
          clear hQ
          rw [dgs_take hG.out hK] at hN
          have hcl := vl_cl hN
          rw [hG.out] at hcl
          replace hcl := Lib.hid hcl
          by_cases hd : i = 0
          · have hno : Hid (okD s.data.toList = false) := by
              show okD s.data.toList = false
              cases h : okD s.data.toList
              · rfl
              · have h1 := dgs_lt (okD_iff.1 h).1
                rw [hG.out, hK] at h1
                omega
            have hdI : ((i : Int) == (0 : Int)) = true := by simp; omega
            replace hd := Lib.hid hd
            clear hN hK hcl
            go_wp2_with (fail)
            all_goals go_returns
            all_goals exact ⟨.inr ⟨hno.out, rfl⟩, rfl⟩
          · have hlt9 : 0 < s.size := by omega
            have hne : dgs s.data.toList ≠ [] := by
              intro h
              have h1 : iN s.data.toList = sgD s.data.toList := by unfold iN; rw [h]; rfl
              rw [hK, hG.out] at h1
              exact hd h1
            have hok := okD_z hG.out hK hne hlt9 rfl
            obtain ⟨z0, hz0⟩ : ∃ z, s[0].toNat = z := ⟨_, rfl⟩
            rw [hz0] at hok
            have hidx0 : ∀ w, (Instr.index 9 (.string s) (.int .i64 (0 : Int))).run Tryd.prog w = .ok (.int .u8 (z0 : Int)) w := fun w => idx_run s 0 z0 hlt9 hz0 w
            have hGI : (0 : Int) < (s.size : Int) := by omega
            have hdI : ((i : Int) == (0 : Int)) = false := by simp; omega
            have hgi2 : (0 : Int) < (i : Int) := by omega
            clear hz0 hN hne
            replace hK := Lib.hid hK
            by_cases hbad : z0 = 48 ∧ 1 < i
            · obtain ⟨b1, b2⟩ := hbad
              have b3 : (1 : Int) < (i : Int) := by omega
              have hno : Hid (okD s.data.toList = false) := by
                show okD s.data.toList = false
                cases h : okD s.data.toList
                · rfl
                · exact absurd ⟨b1, b2⟩ (hok.1 h)
              clear hok
              subst b1
              go_wp2_with (fail)
              all_goals go_returns
              all_goals exact ⟨.inr ⟨hno.out, rfl⟩, rfl⟩
            · have hyes := Lib.hid (hok.2 hbad)
              have hcase : ((z0 : Int) == 48) = false ∨ (((z0 : Int) == 48) = true ∧ ¬ (1 : Int) < (i : Int)) := by
                by_cases h : z0 = 48
                · right; exact ⟨by simp; omega, fun h2 => hbad ⟨h, by omega⟩⟩
                · left; simp; omega
              clear hok hbad
              rcases hcase with b1 | ⟨b1, b2⟩
              all_goals
                go_wp2_with (fail)
                all_goals go_returns
                all_goals exact ⟨.inl ⟨hyes.out, (if (0 : Nat) = 1 then -(n : Int) else (n : Int)), by simp <;> omega, by simp <;> omega, hcl.out, by rw [hK.out] <;> rfl⟩, rfl⟩
  · have h0' : ¬ (0 : Int) < (s.size : Int) := by omega
    have hG : Hid (sgD s.data.toList = 0) := by
      show sgD s.data.toList = 0
      unfold sgD
      rw [if_neg]
      intro h
      have := (List.getElem?_eq_some_iff.1 h).1
      rw [data_size] at this
      omega
    have hsz0 : 0 ≤ s.size := Nat.zero_le _
    clear h0
    go_enter Tryd.func59, Tryd.ntmps59
    go_wp2_with (fail)
    go_loop [5, 7] (fun x5 x7 => ∃ i n : Nat, x5 = .int .i64 i ∧ x7 = .int .i64 n ∧ 0 ≤ i ∧ i ≤ s.size ∧ n ≤ 167772169 ∧ Hid (UpD s.data.toList 0 i ∧ NvQ ((s.data.toList.drop 0).take (i - 0)) n)) (fun x5 _ => s.size - (intOf x5).toNat)
    case atStart => exact ⟨0, 0, rfl, rfl, Nat.le_refl _, hsz0, by decide, Lib.hid ⟨UpD.zero _ _, by rw [Nat.sub_self, List.take_zero]; exact NvQ.zero⟩⟩
    case round =>
      obtain ⟨i, n, rfl, rfl, hgi, his, hnb, hQ⟩ := hrel
      by_cases hlt : i < s.size
      · have hlt' : (i : Int) < (s.size : Int) := by omega
        have hby := byteq s i hlt
        obtain ⟨ch, hch⟩ : ∃ ch, s[i] = ch := ⟨_, rfl⟩
        rw [hch] at hby
        obtain ⟨z, hz⟩ : ∃ z, ch.toNat = z := ⟨_, rfl⟩
        have hidx := idx_run s i z hlt (by rw [hch]; exact hz)
        by_cases hd : 48 ≤ z ∧ z ≤ 57
        · have hU := hQ.out.1.next hby (isD_iff.2 (by rw [hz]; exact hd))
          have d1 : (48 : Int) ≤ (z : Int) := by omega
          have d2 : (z : Int) ≤ 57 := by omega
          by_cases hn : n ≤ 16777216
          · have hV := hQ.out.2.low (c := ch) hn (by rw [hz]; exact hd.2)
            rw [← take_push hgi hby, hz] at hV
            have hQ2 := Lib.hid (And.intro hU hV)
            have hb9 := hV.1
            obtain ⟨M, hM⟩ : ∃ M, 10 * n + (z - 48) = M := ⟨_, rfl⟩
            rw [hM] at hQ2 hb9
            have hMi : Hid (M = 10 * n + (z - 48)) := Lib.hid hM.symm
            have hnI : (n : Int) ≤ 16777216 := by omega
            clear hQ hby hch hz hU hV hM hn
            go_wp2_with (fail)
            exact ⟨⟨i + 1, M, rfl, by have := hMi.out; simp; omega, by omega, by omega, hb9, hQ2⟩, by simp [intOf]; omega⟩
          · have hV := hQ.out.2.high (c := ch) hn
            rw [← take_push hgi hby] at hV
            have hQ2 := Lib.hid (And.intro hU hV)
            have hnI : ¬ (n : Int) ≤ 16777216 := by omega
            clear hQ hby hch hz hU hV hn
            go_wp2_with (fail)
            exact ⟨⟨i + 1, n, rfl, rfl, by omega, by omega, hnb, hQ2⟩, by simp [intOf]; omega⟩
        · have hK : iN s.data.toList = i := iN_is (by rw [hG.out]; exact hgi) (by rw [data_size]; exact his) (by rw [hG.out]; exact hQ.out.1) (fun c hc => by
            rw [hby] at hc
            rw [← Option.some.inj hc]
            cases h : isD ch
            · rfl
            · exact absurd (isD_iff.1 h) (by rw [hz]; exact hd))
          have hd2 : ¬ (48 : Int) ≤ (z : Int) ∨ ((48 : Int) ≤ (z : Int) ∧ ¬ (z : Int) ≤ 57) := by omega
          have hN := hQ.out.2
          clear hQ hby hch hz hd
          rcases hd2 with d1 | ⟨d1, d2⟩
          · skip
            rw [dgs_take hG.out hK] at hN
            have hcl := vl_cl hN
            rw [hG.out] at hcl
            replace hcl := Lib.hid hcl
            by_cases hd : i = 0
            · have hno : Hid (okD s.data.toList = false) := by
                show okD s.data.toList = false
                cases h : okD s.data.toList
                · rfl
                · have h1 := dgs_lt (okD_iff.1 h).1
                  rw [hG.out, hK] at h1
                  omega
              have hdI : ((i : Int) == (0 : Int)) = true := by simp; omega
              replace hd := Lib.hid hd
              clear hN hK hcl
              go_wp2_with (fail)
              all_goals go_returns
              all_goals exact ⟨.inr ⟨hno.out, rfl⟩, rfl⟩
            · have hlt9 : 0 < s.size := by omega
              have hne : dgs s.data.toList ≠ [] := by
                intro h
                have h1 : iN s.data.toList = sgD s.data.toList := by unfold iN; rw [h]; rfl
                rw [hK, hG.out] at h1
                exact hd h1
              have hok := okD_z hG.out hK hne hlt9 rfl
              obtain ⟨z0, hz0⟩ : ∃ z, s[0].toNat = z := ⟨_, rfl⟩
              rw [hz0] at hok
              have hidx0 : ∀ w, (Instr.index 9 (.string s) (.int .i64 (0 : Int))).run Tryd.prog w = .ok (.int .u8 (z0 : Int)) w := fun w => idx_run s 0 z0 hlt9 hz0 w
              have hGI : (0 : Int) < (s.size : Int) := by omega
              have hdI : ((i : Int) == (0 : Int)) = false := by simp; omega
              have hgi2 : (0 : Int) < (i : Int) := by omega
              clear hz0 hN hne
              replace hK := Lib.hid hK
              by_cases hbad : z0 = 48 ∧ 1 < i
              · obtain ⟨b1, b2⟩ := hbad
                have b3 : (1 : Int) < (i : Int) := by omega
                have hno : Hid (okD s.data.toList = false) := by
                  show okD s.data.toList = false
                  cases h : okD s.data.toList
                  · rfl
                  · exact absurd ⟨b1, b2⟩ (hok.1 h)
                clear hok
                subst b1
                go_wp2_with (fail)
                all_goals go_returns
                all_goals exact ⟨.inr ⟨hno.out, rfl⟩, rfl⟩
              · have hyes := Lib.hid (hok.2 hbad)
                have hcase : ((z0 : Int) == 48) = false ∨ (((z0 : Int) == 48) = true ∧ ¬ (1 : Int) < (i : Int)) := by
                  by_cases h : z0 = 48
                  · right; exact ⟨by simp; omega, fun h2 => hbad ⟨h, by omega⟩⟩
                  · left; simp; omega
                clear hok hbad
                rcases hcase with b1 | ⟨b1, b2⟩
                all_goals
                  go_wp2_with (fail)
                  all_goals go_returns
                  all_goals exact ⟨.inl ⟨hyes.out, (if (0 : Nat) = 1 then -(n : Int) else (n : Int)), by simp <;> omega, by simp <;> omega, hcl.out, by rw [hK.out] <;> rfl⟩, rfl⟩
          · skip
            rw [dgs_take hG.out hK] at hN
            have hcl := vl_cl hN
            rw [hG.out] at hcl
            replace hcl := Lib.hid hcl
            by_cases hd : i = 0
            · have hno : Hid (okD s.data.toList = false) := by
                show okD s.data.toList = false
                cases h : okD s.data.toList
                · rfl
                · have h1 := dgs_lt (okD_iff.1 h).1
                  rw [hG.out, hK] at h1
                  omega
              have hdI : ((i : Int) == (0 : Int)) = true := by simp; omega
              replace hd := Lib.hid hd
              clear hN hK hcl
              go_wp2_with (fail)
              all_goals go_returns
              all_goals exact ⟨.inr ⟨hno.out, rfl⟩, rfl⟩
            · have hlt9 : 0 < s.size := by omega
              have hne : dgs s.data.toList ≠ [] := by
                intro h
                have h1 : iN s.data.toList = sgD s.data.toList := by unfold iN; rw [h]; rfl
                rw [hK, hG.out] at h1
                exact hd h1
              have hok := okD_z hG.out hK hne hlt9 rfl
              obtain ⟨z0, hz0⟩ : ∃ z, s[0].toNat = z := ⟨_, rfl⟩
              rw [hz0] at hok
              have hidx0 : ∀ w, (Instr.index 9 (.string s) (.int .i64 (0 : Int))).run Tryd.prog w = .ok (.int .u8 (z0 : Int)) w := fun w => idx_run s 0 z0 hlt9 hz0 w
              have hGI : (0 : Int) < (s.size : Int) := by omega
              have hdI : ((i : Int) == (0 : Int)) = false := by simp; omega
              have hgi2 : (0 : Int) < (i : Int) := by omega
              clear hz0 hN hne
              replace hK := Lib.hid hK
              by_cases hbad : z0 = 48 ∧ 1 < i
              · obtain ⟨b1, b2⟩ := hbad
                have b3 : (1 : Int) < (i : Int) := by omega
                have hno : Hid (okD s.data.toList = false) := by
                  show okD s.data.toList = false
                  cases h : okD s.data.toList
                  · rfl
                  · exact absurd ⟨b1, b2⟩ (hok.1 h)
                clear hok
                subst b1
                go_wp2_with (fail)
                all_goals go_returns
                all_goals exact ⟨.inr ⟨hno.out, rfl⟩, rfl⟩
              · have hyes := Lib.hid (hok.2 hbad)
                have hcase : ((z0 : Int) == 48) = false ∨ (((z0 : Int) == 48) = true ∧ ¬ (1 : Int) < (i : Int)) := by
                  by_cases h : z0 = 48
                  · right; exact ⟨by simp; omega, fun h2 => hbad ⟨h, by omega⟩⟩
                  · left; simp; omega
                clear hok hbad
                rcases hcase with b1 | ⟨b1, b2⟩
                all_goals
                  go_wp2_with (fail)
                  all_goals go_returns
                  all_goals exact ⟨.inl ⟨hyes.out, (if (0 : Nat) = 1 then -(n : Int) else (n : Int)), by simp <;> omega, by simp <;> omega, hcl.out, by rw [hK.out] <;> rfl⟩, rfl⟩
      · have hlt' : ¬ (i : Int) < (s.size : Int) := by omega
        have hK : iN s.data.toList = i := iN_is (by rw [hG.out]; exact hgi) (by rw [data_size]; exact his) (by rw [hG.out]; exact hQ.out.1) (fun c hc => by
          have := (List.getElem?_eq_some_iff.1 hc).1
          rw [data_size] at this
          omega)
        have hN := hQ.out.2
        clear hQ
        rw [dgs_take hG.out hK] at hN
        have hcl := vl_cl hN
        rw [hG.out] at hcl
        replace hcl := Lib.hid hcl
        by_cases hd : i = 0
        · have hno : Hid (okD s.data.toList = false) := by
            show okD s.data.toList = false
            cases h : okD s.data.toList
            · rfl
            · have h1 := dgs_lt (okD_iff.1 h).1
              rw [hG.out, hK] at h1
              omega
          have hdI : ((i : Int) == (0 : Int)) = true := by simp; omega
          replace hd := Lib.hid hd
          clear hN hK hcl
          go_wp2_with (fail)
          all_goals go_returns
          all_goals exact ⟨.inr ⟨hno.out, rfl⟩, rfl⟩
        · have hlt9 : 0 < s.size := by omega
          have hne : dgs s.data.toList ≠ [] := by
            intro h
            have h1 : iN s.data.toList = sgD s.data.toList := by unfold iN; rw [h]; rfl
            rw [hK, hG.out] at h1
            exact hd h1
          have hok := okD_z hG.out hK hne hlt9 rfl
          obtain ⟨z0, hz0⟩ : ∃ z, s[0].toNat = z := ⟨_, rfl⟩
          rw [hz0] at hok
          have hidx0 : ∀ w, (Instr.index 9 (.string s) (.int .i64 (0 : Int))).run Tryd.prog w = .ok (.int .u8 (z0 : Int)) w := fun w => idx_run s 0 z0 hlt9 hz0 w
          have hGI : (0 : Int) < (s.size : Int) := by omega
          have hdI : ((i : Int) == (0 : Int)) = false := by simp; omega
          have hgi2 : (0 : Int) < (i : Int) := by omega
          clear hz0 hN hne
          replace hK := Lib.hid hK
          by_cases hbad : z0 = 48 ∧ 1 < i
          · obtain ⟨b1, b2⟩ := hbad
            have b3 : (1 : Int) < (i : Int) := by omega
            have hno : Hid (okD s.data.toList = false) := by
              show okD s.data.toList = false
              cases h : okD s.data.toList
              · rfl
              · exact absurd ⟨b1, b2⟩ (hok.1 h)
            clear hok
            subst b1
            go_wp2_with (fail)
            all_goals go_returns
            all_goals exact ⟨.inr ⟨hno.out, rfl⟩, rfl⟩
          · have hyes := Lib.hid (hok.2 hbad)
            have hcase : ((z0 : Int) == 48) = false ∨ (((z0 : Int) == 48) = true ∧ ¬ (1 : Int) < (i : Int)) := by
              by_cases h : z0 = 48
              · right; exact ⟨by simp; omega, fun h2 => hbad ⟨h, by omega⟩⟩
              · left; simp; omega
            clear hok hbad
            rcases hcase with b1 | ⟨b1, b2⟩
            all_goals
              go_wp2_with (fail)
              all_goals go_returns
              all_goals exact ⟨.inl ⟨hyes.out, (if (0 : Nat) = 1 then -(n : Int) else (n : Int)), by simp <;> omega, by simp <;> omega, hcl.out, by rw [hK.out] <;> rfl⟩, rfl⟩
end Go.Proofs.YtmmfjonoenmplaaDoor
