import Derived.Test.YtmmfjonoenmplaaDoorGbE
import Derived.Test.YtmmfjonoenmplaaDoorGbC
import Derived.Test.YtmmfjonoenmplaaDoorOwn
namespace Go.Proofs.YtmmfjonoenmplaaDoor
open Go.RowKit Go.Extern.Stop Go.Stop Go.Extern
set_option linter.unusedVariables false
set_option linter.unusedSimpArgs false
/-! chapter 2: the program's digits -/
theorem byteq (s : ByteArray) (k : Nat) (h : k < s.size) : s.data.toList[k]? = some s[k] := by
  rw [List.getElem?_eq_getElem (by rw [data_size]; exact h)]
  rfl
theorem idx_run (s : ByteArray) (k z : Nat) (h : k < s.size) (hz : s[k].toNat = z) (w : World) : (Instr.index 9 (.string s) (.int .i64 (k : Int))).run Tryd.prog w = .ok (.int .u8 (z : Int)) w := by
  rw [run_index_string w 9 s .i64 (k : Int) Tryd.underlying9, dif_pos ⟨by omega, by omega⟩]
  rw [← hz]
  rfl
theorem idx_run0 (s : ByteArray) (z : Nat) (h : 0 < s.size) (hz : s[0].toNat = z) (w : World) : (Instr.index 9 (.string s) (.int .i64 0)).run Tryd.prog w = .ok (.int .u8 (z : Int)) w := by
  rw [run_index_string w 9 s .i64 0 Tryd.underlying9, dif_pos ⟨by omega, by omega⟩]
  rw [← hz]
  rfl
/-- what digits answers -/
def DgQ (s : ByteArray) (w w' : World) (e : Ending) : Prop :=
  ((okD s.data.toList = true ∧ ∃ n, inQ n ∧ Cl n (vlD s.data.toList) ∧ e = .returned (.tuple #[.int .i64 n, .string (s.extract (iN s.data.toList) s.size), .bool true])) ∨
  (okD s.data.toList = false ∧ e = .returned (.tuple #[.int .i64 0, .string ⟨#[]⟩, .bool false]))) ∧ Below w.heap.size w w'
/-- how far the digits go -/
def UpD (L : List UInt8) (g i : Nat) : Prop := ∀ j, g ≤ j → j < i → ∃ c, L[j]? = some c ∧ isD c = true
theorem UpD.zero (L : List UInt8) (g : Nat) : UpD L g g := fun j h1 h2 => absurd h2 (by omega)
theorem UpD.next {L : List UInt8} {g i : Nat} {c : UInt8} (h : UpD L g i) (hc : L[i]? = some c) (hd : isD c = true) : UpD L g (i + 1) := fun j h1 h2 => by
  by_cases hj : j = i
  · rw [hj]; exact ⟨c, hc, hd⟩
  · exact h j h1 (by omega)
theorem dgs_head {L : List UInt8} (h : dgs L ≠ []) : (dgs L)[0]? = L[sgD L]? := by
  have hl : 0 < (dgs L).length := List.length_pos_iff.2 h
  have e : dgs L = (L.drop (sgD L)).take (dgs L).length := takeW_eq isD (L.drop (sgD L))
  rw [e, List.getElem?_take, if_pos hl, List.getElem?_drop, Nat.add_zero]
theorem okD_z {s : ByteArray} {G i z : Nat} (hG : sgD s.data.toList = G) (hK : iN s.data.toList = i) (hd : dgs s.data.toList ≠ []) (hlt : G < s.size) (hz : s[G].toNat = z) : okD s.data.toList = true ↔ ¬ (z = 48 ∧ 1 < i) := by
  rw [okD_iff, dgs_head hd, hG, byteq s G hlt, hK]
  constructor
  · rintro ⟨_, h⟩ ⟨h1, h2⟩
    exact h ⟨by rw [Option.some_inj]; exact UInt8.toNat_inj.1 (by rw [hz, h1]; rfl), h2⟩
  · intro h
    refine ⟨hd, ?_⟩
    rintro ⟨h1, h2⟩
    rw [Option.some_inj] at h1
    exact h ⟨by rw [← hz, h1]; rfl, h2⟩
theorem dgs_lt {L : List UInt8} (h : dgs L ≠ []) : sgD L < iN L := by
  have : 0 < (dgs L).length := List.length_pos_iff.2 h
  unfold iN
  omega
theorem Cl.refl (n : Int) : Cl n n := .inl rfl
set_option maxRecDepth 100000 in
set_option maxHeartbeats 4000000 in
theorem digits_any (s : ByteArray) (hs : s.size ≤ 281474976710656) (w : World) (hM : Mq w) : Calls Tryd.prog 58 #[.string s] w (fun e w' => DgQ s w w' e) := by
  have hs' : (s.size : Int) ≤ 281474976710656 := by omega
  obtain ⟨a1, a2, hE⟩ := hM.err
  replace hE := Lib.hid hE
  replace hM := Lib.hid hM
  by_cases h0 : 0 < s.size
  · have h0' : (0 : Int) < (s.size : Int) := by omega
    obtain ⟨z0, hz0⟩ : ∃ z, s[0].toNat = z := ⟨_, rfl⟩
    have hidx0 := idx_run0 s z0 h0 hz0
    by_cases h45 : z0 = 45
    · have hG : Hid (sgD s.data.toList = 1) := by
        show sgD s.data.toList = 1
        unfold sgD
        rw [byteq s 0 h0, if_pos]
        rw [Option.some_inj]
        exact UInt8.toNat_inj.1 (by rw [hz0, h45]; rfl)
      have hsz0 : 1 ≤ s.size := h0
      subst h45
      clear hz0 h0
      go_enter Tryd.func58, Tryd.ntmps58
      go_wp2_with (fail)
      clear hidx0
      go_loop [5] (fun x5 => ∃ i : Nat, x5 = .int .i64 i ∧ 1 ≤ i ∧ i ≤ s.size ∧ Hid (UpD s.data.toList 1 i)) (fun x5 => s.size - (intOf x5).toNat)
      case atStart => exact ⟨1, rfl, Nat.le_refl _, hsz0, Lib.hid (UpD.zero _ _)⟩
      case round =>
        obtain ⟨i, rfl, hgi, his, hQ⟩ := hrel
        by_cases hlt : i < s.size
        · have hlt' : (i : Int) < (s.size : Int) := by omega
          have hby := byteq s i hlt
          obtain ⟨ch, hch⟩ : ∃ ch, s[i] = ch := ⟨_, rfl⟩
          rw [hch] at hby
          obtain ⟨z, hz⟩ : ∃ z, ch.toNat = z := ⟨_, rfl⟩
          have hidx := idx_run s i z hlt (by rw [hch]; exact hz)
          by_cases hd : 48 ≤ z ∧ z ≤ 57
          · have hQ2 := Lib.hid (hQ.out.next hby (isD_iff.2 (by rw [hz]; exact hd)))
            have d1 : (48 : Int) ≤ (z : Int) := by omega
            have d2 : (z : Int) ≤ 57 := by omega
            clear hQ hby hch hz hd
            go_wp2_with (fail)
            exact ⟨⟨i + 1, rfl, by omega, by omega, hQ2⟩, by simp [intOf]; omega⟩
          · have hK : iN s.data.toList = i := iN_is (by rw [hG.out]; exact hgi) (by rw [data_size]; exact his) (by rw [hG.out]; exact hQ.out) (fun c hc => by
              rw [hby] at hc
              rw [← Option.some.inj hc]
              cases h : isD ch
              · rfl
              · exact absurd (isD_iff.1 h) (by rw [hz]; exact hd))
            have hd2 : ¬ (48 : Int) ≤ (z : Int) ∨ ((48 : Int) ≤ (z : Int) ∧ ¬ (z : Int) ≤ 57) := by omega
            clear hQ hby hch hz hd
            rcases hd2 with d1 | ⟨d1, d2⟩
            · skip
              have hiI : (i : Int) ≤ (s.size : Int) := by omega
              have hS1 : (s.extract 0 i).data.toList = s.data.toList.take (iN s.data.toList) := by rw [hK, Lib.extract_eq]; simp
              have hat := atoi_q s (s.extract 0 i) hS1 (by rw [ByteArray.size_extract]; omega) w hM.out
              obtain ⟨S1, hS1e⟩ : ∃ S, s.extract 0 i = S := ⟨_, rfl⟩
              obtain ⟨R, hR⟩ : ∃ S, s.extract i s.size = S := ⟨_, rfl⟩
              rw [hS1e] at hat
              replace hat := Lib.hid hat
              replace hK := Lib.hid hK
              clear hS1
              go_wp2_with (fail)
              refine hat.out.mono ?_
              rintro e w1 ⟨hq, hb⟩
              have c8 := (hE.out.bel hb).ran
              rw [c8] at hq
              unfold sentV at hq c8
              unfold numV at hq
              simp only [Option.getD_some] at hq
              have hB := Lib.hid hb
              obtain ⟨V, hV⟩ : ∃ V, vlD s.data.toList = V := ⟨_, rfl⟩
              rw [hV] at hq
              replace hV := Lib.hid hV
              clear hb hat
              rcases hq with ⟨hd, hv, rfl⟩ | ⟨N, v, hv, rfl, ⟨hd, hIs⟩ | ⟨hd, r1, r2, hIs⟩⟩
              · have hlt9 := dgs_lt hd
                rw [hG.out, hK.out] at hlt9
                replace hlt9 : 1 < s.size := by omega
                have hsn := Lib.hid (fun w => is_snil a1 w)
                unfold sentV at hsn
                replace hd := Lib.hid hd
                replace hv := Lib.hid hv
                go_wp2_with (fail)
                refine (hsn.out _).mono ?_
                rintro e w2_ ⟨rfl, hw2⟩
                have hw2 := hw2.symm
                subst hw2
                clear hsn c8
                have hok := okD_z hG.out hK.out hd.out hlt9 rfl
                obtain ⟨z0, hz0⟩ : ∃ z, s[1].toNat = z := ⟨_, rfl⟩
                rw [hz0] at hok
                have hidx0 : ∀ w, (Instr.index 9 (.string s) (.int .i64 (1 : Int))).run Tryd.prog w = .ok (.int .u8 (z0 : Int)) w := fun w => idx_run s 1 z0 hlt9 hz0 w
                have hGI : (1 : Int) < (s.size : Int) := by omega
                clear hz0
                by_cases hbad : z0 = 48 ∧ 1 < i
                · obtain ⟨b1, b2⟩ := hbad
                  have b3 : (1 : Int) < (i : Int) := by omega
                  have hno : Hid (okD s.data.toList = false) := by
                    show okD s.data.toList = false
                    cases h : okD s.data.toList
                    · rfl
                    · exact absurd ⟨b1, b2⟩ (hok.1 h)
                  clear hok
                  subst b1
                  go_wp2_with (fail)
                  go_returns
                  exact ⟨.inr ⟨hno.out, rfl⟩, hB.out⟩
                · have hyes := Lib.hid (hok.2 hbad)
                  have hcase : ((z0 : Int) == 48) = false ∨ (((z0 : Int) == 48) = true ∧ ¬ (1 : Int) < (i : Int)) := by
                    by_cases h : z0 = 48
                    · right; exact ⟨by simp; omega, fun h2 => hbad ⟨h, by omega⟩⟩
                    · left; simp; omega
                  clear hok hbad
                  rcases hcase with b1 | ⟨b1, b2⟩
                  all_goals
                    go_wp2_with (fail)
                    all_goals (try go_quiet (fail))
                    all_goals (try go_wp2_with (fail))
                    all_goals go_returns
                    all_goals exact ⟨.inl ⟨hyes.out, V, hv.out, by rw [hV.out]; exact Cl.refl _, by rw [hK.out, hR] <;> rfl⟩, by first | exact hB.out | exact hB.out.drew | exact hB.out.trans ⟨rfl, rfl, rfl, Nat.le_refl _, fun _ _ => rfl⟩⟩
              · have hno : Hid (okD s.data.toList = false) := by
                  show okD s.data.toList = false
                  cases h : okD s.data.toList
                  · rfl
                  · exact absurd hd (okD_iff.1 h).1
                have h0 : Calls Tryd.prog 60 #[.iface 120 (.pointer (some ⟨N, 0, none⟩)), .iface 140 (.pointer (some a1))] w1 fun e w2 => e = .returned (.bool false) ∧ ∃ k, w2 = w1.drewN k := hIs 0
                replace h0 := Lib.hid h0
                clear hIs hd
                go_wp2_with (fail)
                refine h0.out.mono ?_
                rintro e w2_ ⟨rfl, k, hk⟩
                have hB2 := Lib.hid (by rw [hk]; exact hB.out.trans ⟨rfl, rfl, rfl, Nat.le_refl _, fun _ _ => rfl⟩ : Below w.heap.size w w2_)
                clear hk h0 c8
                go_wp2_with (fail)
                go_returns
                exact ⟨.inr ⟨hno.out, rfl⟩, hB2.out⟩
              · have hlt9 := dgs_lt hd
                rw [hG.out, hK.out] at hlt9
                replace hlt9 : 1 < s.size := by omega
                have h0 : Calls Tryd.prog 60 #[.iface 120 (.pointer (some ⟨N, 0, none⟩)), .iface 140 (.pointer (some a1))] w1 fun e w2 => e = .returned (.bool true) ∧ ∃ k, w2 = w1.drewN k := hIs 0
                replace h0 := Lib.hid h0
                replace hd := Lib.hid hd
                have hr := Lib.hid (And.intro r1 r2)
                clear hIs r1 r2
                go_wp2_with (fail)
                refine h0.out.mono ?_
                rintro e w2_ ⟨rfl, k, hk⟩
                have hB2 := Lib.hid (by rw [hk]; exact hB.out.trans ⟨rfl, rfl, rfl, Nat.le_refl _, fun _ _ => rfl⟩ : Below w.heap.size w w2_)
                clear hk h0 c8 hB
                have hB := hB2
                have hok := okD_z hG.out hK.out hd.out hlt9 rfl
                obtain ⟨z0, hz0⟩ : ∃ z, s[1].toNat = z := ⟨_, rfl⟩
                rw [hz0] at hok
                have hidx0 : ∀ w, (Instr.index 9 (.string s) (.int .i64 (1 : Int))).run Tryd.prog w = .ok (.int .u8 (z0 : Int)) w := fun w => idx_run s 1 z0 hlt9 hz0 w
                have hGI : (1 : Int) < (s.size : Int) := by omega
                clear hz0
                by_cases hbad : z0 = 48 ∧ 1 < i
                · obtain ⟨b1, b2⟩ := hbad
                  have b3 : (1 : Int) < (i : Int) := by omega
                  have hno : Hid (okD s.data.toList = false) := by
                    show okD s.data.toList = false
                    cases h : okD s.data.toList
                    · rfl
                    · exact absurd ⟨b1, b2⟩ (hok.1 h)
                  clear hok
                  subst b1
                  go_wp2_with (fail)
                  go_returns
                  exact ⟨.inr ⟨hno.out, rfl⟩, hB.out⟩
                · have hyes := Lib.hid (hok.2 hbad)
                  have hcase : ((z0 : Int) == 48) = false ∨ (((z0 : Int) == 48) = true ∧ ¬ (1 : Int) < (i : Int)) := by
                    by_cases h : z0 = 48
                    · right; exact ⟨by simp; omega, fun h2 => hbad ⟨h, by omega⟩⟩
                    · left; simp; omega
                  clear hok hbad
                  rcases hcase with b1 | ⟨b1, b2⟩
                  all_goals
                    go_wp2_with (fail)
                    all_goals (try go_quiet (fail))
                    all_goals (try go_wp2_with (fail))
                    all_goals go_returns
                    all_goals exact ⟨.inl ⟨hyes.out, (if (1 : Nat) = 1 then (-16777217 : Int) else 16777217), by unfold inQ; decide, by rw [hV.out]; have h1 := hr.out.1; have h2 := hr.out.2; have h3 := hG.out; unfold Cl; first | (have h4 := h1 h3; simp; omega) | (have h4 := h2 h3; simp; omega), by rw [hK.out, hR] <;> rfl⟩, by first | exact hB.out | exact hB.out.drew | exact hB.out.trans ⟨rfl, rfl, rfl, Nat.le_refl _, fun _ _ => rfl⟩⟩
            · skip
              have hiI : (i : Int) ≤ (s.size : Int) := by omega
              have hS1 : (s.extract 0 i).data.toList = s.data.toList.take (iN s.data.toList) := by rw [hK, Lib.extract_eq]; simp
              have hat := atoi_q s (s.extract 0 i) hS1 (by rw [ByteArray.size_extract]; omega) w hM.out
              obtain ⟨S1, hS1e⟩ : ∃ S, s.extract 0 i = S := ⟨_, rfl⟩
              obtain ⟨R, hR⟩ : ∃ S, s.extract i s.size = S := ⟨_, rfl⟩
              rw [hS1e] at hat
              replace hat := Lib.hid hat
              replace hK := Lib.hid hK
              clear hS1
              go_wp2_with (fail)
              refine hat.out.mono ?_
              rintro e w1 ⟨hq, hb⟩
              have c8 := (hE.out.bel hb).ran
              rw [c8] at hq
              unfold sentV at hq c8
              unfold numV at hq
              simp only [Option.getD_some] at hq
              have hB := Lib.hid hb
              obtain ⟨V, hV⟩ : ∃ V, vlD s.data.toList = V := ⟨_, rfl⟩
              rw [hV] at hq
              replace hV := Lib.hid hV
              clear hb hat
              rcases hq with ⟨hd, hv, rfl⟩ | ⟨N, v, hv, rfl, ⟨hd, hIs⟩ | ⟨hd, r1, r2, hIs⟩⟩
              · have hlt9 := dgs_lt hd
                rw [hG.out, hK.out] at hlt9
                replace hlt9 : 1 < s.size := by omega
                have hsn := Lib.hid (fun w => is_snil a1 w)
                unfold sentV at hsn
                replace hd := Lib.hid hd
                replace hv := Lib.hid hv
                go_wp2_with (fail)
                refine (hsn.out _).mono ?_
                rintro e w2_ ⟨rfl, hw2⟩
                have hw2 := hw2.symm
                subst hw2
                clear hsn c8
                have hok := okD_z hG.out hK.out hd.out hlt9 rfl
                obtain ⟨z0, hz0⟩ : ∃ z, s[1].toNat = z := ⟨_, rfl⟩
                rw [hz0] at hok
                have hidx0 : ∀ w, (Instr.index 9 (.string s) (.int .i64 (1 : Int))).run Tryd.prog w = .ok (.int .u8 (z0 : Int)) w := fun w => idx_run s 1 z0 hlt9 hz0 w
                have hGI : (1 : Int) < (s.size : Int) := by omega
                clear hz0
                by_cases hbad : z0 = 48 ∧ 1 < i
                · obtain ⟨b1, b2⟩ := hbad
                  have b3 : (1 : Int) < (i : Int) := by omega
                  have hno : Hid (okD s.data.toList = false) := by
                    show okD s.data.toList = false
                    cases h : okD s.data.toList
                    · rfl
                    · exact absurd ⟨b1, b2⟩ (hok.1 h)
                  clear hok
                  subst b1
                  go_wp2_with (fail)
                  go_returns
                  exact ⟨.inr ⟨hno.out, rfl⟩, hB.out⟩
                · have hyes := Lib.hid (hok.2 hbad)
                  have hcase : ((z0 : Int) == 48) = false ∨ (((z0 : Int) == 48) = true ∧ ¬ (1 : Int) < (i : Int)) := by
                    by_cases h : z0 = 48
                    · right; exact ⟨by simp; omega, fun h2 => hbad ⟨h, by omega⟩⟩
                    · left; simp; omega
                  clear hok hbad
                  rcases hcase with b1 | ⟨b1, b2⟩
                  all_goals
                    go_wp2_with (fail)
                    all_goals (try go_quiet (fail))
                    all_goals (try go_wp2_with (fail))
                    all_goals go_returns
                    all_goals exact ⟨.inl ⟨hyes.out, V, hv.out, by rw [hV.out]; exact Cl.refl _, by rw [hK.out, hR] <;> rfl⟩, by first | exact hB.out | exact hB.out.drew | exact hB.out.trans ⟨rfl, rfl, rfl, Nat.le_refl _, fun _ _ => rfl⟩⟩
              · have hno : Hid (okD s.data.toList = false) := by
                  show okD s.data.toList = false
                  cases h : okD s.data.toList
                  · rfl
                  · exact absurd hd (okD_iff.1 h).1
                have h0 : Calls Tryd.prog 60 #[.iface 120 (.pointer (some ⟨N, 0, none⟩)), .iface 140 (.pointer (some a1))] w1 fun e w2 => e = .returned (.bool false) ∧ ∃ k, w2 = w1.drewN k := hIs 0
                replace h0 := Lib.hid h0
                clear hIs hd
                go_wp2_with (fail)
                refine h0.out.mono ?_
                rintro e w2_ ⟨rfl, k, hk⟩
                have hB2 := Lib.hid (by rw [hk]; exact hB.out.trans ⟨rfl, rfl, rfl, Nat.le_refl _, fun _ _ => rfl⟩ : Below w.heap.size w w2_)
                clear hk h0 c8
                go_wp2_with (fail)
                go_returns
                exact ⟨.inr ⟨hno.out, rfl⟩, hB2.out⟩
              · have hlt9 := dgs_lt hd
                rw [hG.out, hK.out] at hlt9
                replace hlt9 : 1 < s.size := by omega
                have h0 : Calls Tryd.prog 60 #[.iface 120 (.pointer (some ⟨N, 0, none⟩)), .iface 140 (.pointer (some a1))] w1 fun e w2 => e = .returned (.bool true) ∧ ∃ k, w2 = w1.drewN k := hIs 0
                replace h0 := Lib.hid h0
                replace hd := Lib.hid hd
                have hr := Lib.hid (And.intro r1 r2)
                clear hIs r1 r2
                go_wp2_with (fail)
                refine h0.out.mono ?_
                rintro e w2_ ⟨rfl, k, hk⟩
                have hB2 := Lib.hid (by rw [hk]; exact hB.out.trans ⟨rfl, rfl, rfl, Nat.le_refl _, fun _ _ => rfl⟩ : Below w.heap.size w w2_)
                clear hk h0 c8 hB
                have hB := hB2
                have hok := okD_z hG.out hK.out hd.out hlt9 rfl
                obtain ⟨z0, hz0⟩ : ∃ z, s[1].toNat = z := ⟨_, rfl⟩
                rw [hz0] at hok
                have hidx0 : ∀ w, (Instr.index 9 (.string s) (.int .i64 (1 : Int))).run Tryd.prog w = .ok (.int .u8 (z0 : Int)) w := fun w => idx_run s 1 z0 hlt9 hz0 w
                have hGI : (1 : Int) < (s.size : Int) := by omega
                clear hz0
                by_cases hbad : z0 = 48 ∧ 1 < i
                · obtain ⟨b1, b2⟩ := hbad
                  have b3 : (1 : Int) < (i : Int) := by omega
                  have hno : Hid (okD s.data.toList = false) := by
                    show okD s.data.toList = false
                    cases h : okD s.data.toList
                    · rfl
                    · exact absurd ⟨b1, b2⟩ (hok.1 h)
                  clear hok
                  subst b1
                  go_wp2_with (fail)
                  go_returns
                  exact ⟨.inr ⟨hno.out, rfl⟩, hB.out⟩
                · have hyes := Lib.hid (hok.2 hbad)
                  have hcase : ((z0 : Int) == 48) = false ∨ (((z0 : Int) == 48) = true ∧ ¬ (1 : Int) < (i : Int)) := by
                    by_cases h : z0 = 48
                    · right; exact ⟨by simp; omega, fun h2 => hbad ⟨h, by omega⟩⟩
                    · left; simp; omega
                  clear hok hbad
                  rcases hcase with b1 | ⟨b1, b2⟩
                  all_goals
                    go_wp2_with (fail)
                    all_goals (try go_quiet (fail))
                    all_goals (try go_wp2_with (fail))
                    all_goals go_returns
                    all_goals exact ⟨.inl ⟨hyes.out, (if (1 : Nat) = 1 then (-16777217 : Int) else 16777217), by unfold inQ; decide, by rw [hV.out]; have h1 := hr.out.1; have h2 := hr.out.2; have h3 := hG.out; unfold Cl; first | (have h4 := h1 h3; simp; omega) | (have h4 := h2 h3; simp; omega), by rw [hK.out, hR] <;> rfl⟩, by first | exact hB.out | exact hB.out.drew | exact hB.out.trans ⟨rfl, rfl, rfl, Nat.le_refl _, fun _ _ => rfl⟩⟩
        · have hlt' : ¬ (i : Int) < (s.size : Int) := by omega
          have hK : iN s.data.toList = i := iN_is (by rw [hG.out]; exact hgi) (by rw [data_size]; exact his) (by rw [hG.out]; exact hQ.out) (fun c hc => by
            have := (List.getElem?_eq_some_iff.1 hc).1
            rw [data_size] at this
            omega)
          clear hQ
          have hiI : (i : Int) ≤ (s.size : Int) := by omega
          have hS1 : (s.extract 0 i).data.toList = s.data.toList.take (iN s.data.toList) := by rw [hK, Lib.extract_eq]; simp
          have hat := atoi_q s (s.extract 0 i) hS1 (by rw [ByteArray.size_extract]; omega) w hM.out
          obtain ⟨S1, hS1e⟩ : ∃ S, s.extract 0 i = S := ⟨_, rfl⟩
          obtain ⟨R, hR⟩ : ∃ S, s.extract i s.size = S := ⟨_, rfl⟩
          rw [hS1e] at hat
          replace hat := Lib.hid hat
          replace hK := Lib.hid hK
          clear hS1
          go_wp2_with (fail)
          refine hat.out.mono ?_
          rintro e w1 ⟨hq, hb⟩
          have c8 := (hE.out.bel hb).ran
          rw [c8] at hq
          unfold sentV at hq c8
          unfold numV at hq
          simp only [Option.getD_some] at hq
          have hB := Lib.hid hb
          obtain ⟨V, hV⟩ : ∃ V, vlD s.data.toList = V := ⟨_, rfl⟩
          rw [hV] at hq
          replace hV := Lib.hid hV
          clear hb hat
          rcases hq with ⟨hd, hv, rfl⟩ | ⟨N, v, hv, rfl, ⟨hd, hIs⟩ | ⟨hd, r1, r2, hIs⟩⟩
          · have hlt9 := dgs_lt hd
            rw [hG.out, hK.out] at hlt9
            replace hlt9 : 1 < s.size := by omega
            have hsn := Lib.hid (fun w => is_snil a1 w)
            unfold sentV at hsn
            replace hd := Lib.hid hd
            replace hv := Lib.hid hv
            go_wp2_with (fail)
            refine (hsn.out _).mono ?_
            rintro e w2_ ⟨rfl, hw2⟩
            have hw2 := hw2.symm
            subst hw2
            clear hsn c8
            have hok := okD_z hG.out hK.out hd.out hlt9 rfl
            obtain ⟨z0, hz0⟩ : ∃ z, s[1].toNat = z := ⟨_, rfl⟩
            rw [hz0] at hok
            have hidx0 : ∀ w, (Instr.index 9 (.string s) (.int .i64 (1 : Int))).run Tryd.prog w = .ok (.int .u8 (z0 : Int)) w := fun w => idx_run s 1 z0 hlt9 hz0 w
            have hGI : (1 : Int) < (s.size : Int) := by omega
            clear hz0
            by_cases hbad : z0 = 48 ∧ 1 < i
            · obtain ⟨b1, b2⟩ := hbad
              have b3 : (1 : Int) < (i : Int) := by omega
              have hno : Hid (okD s.data.toList = false) := by
                show okD s.data.toList = false
                cases h : okD s.data.toList
                · rfl
                · exact absurd ⟨b1, b2⟩ (hok.1 h)
              clear hok
              subst b1
              go_wp2_with (fail)
              go_returns
              exact ⟨.inr ⟨hno.out, rfl⟩, hB.out⟩
            · have hyes := Lib.hid (hok.2 hbad)
              have hcase : ((z0 : Int) == 48) = false ∨ (((z0 : Int) == 48) = true ∧ ¬ (1 : Int) < (i : Int)) := by
                by_cases h : z0 = 48
                · right; exact ⟨by simp; omega, fun h2 => hbad ⟨h, by omega⟩⟩
                · left; simp; omega
              clear hok hbad
              rcases hcase with b1 | ⟨b1, b2⟩
              all_goals
                go_wp2_with (fail)
                all_goals (try go_quiet (fail))
                all_goals (try go_wp2_with (fail))
                all_goals go_returns
                all_goals exact ⟨.inl ⟨hyes.out, V, hv.out, by rw [hV.out]; exact Cl.refl _, by rw [hK.out, hR] <;> rfl⟩, by first | exact hB.out | exact hB.out.drew | exact hB.out.trans ⟨rfl, rfl, rfl, Nat.le_refl _, fun _ _ => rfl⟩⟩
          · have hno : Hid (okD s.data.toList = false) := by
              show okD s.data.toList = false
              cases h : okD s.data.toList
              · rfl
              · exact absurd hd (okD_iff.1 h).1
            have h0 : Calls Tryd.prog 60 #[.iface 120 (.pointer (some ⟨N, 0, none⟩)), .iface 140 (.pointer (some a1))] w1 fun e w2 => e = .returned (.bool false) ∧ ∃ k, w2 = w1.drewN k := hIs 0
            replace h0 := Lib.hid h0
            clear hIs hd
            go_wp2_with (fail)
            refine h0.out.mono ?_
            rintro e w2_ ⟨rfl, k, hk⟩
            have hB2 := Lib.hid (by rw [hk]; exact hB.out.trans ⟨rfl, rfl, rfl, Nat.le_refl _, fun _ _ => rfl⟩ : Below w.heap.size w w2_)
            clear hk h0 c8
            go_wp2_with (fail)
            go_returns
            exact ⟨.inr ⟨hno.out, rfl⟩, hB2.out⟩
          · have hlt9 := dgs_lt hd
            rw [hG.out, hK.out] at hlt9
            replace hlt9 : 1 < s.size := by omega
            have h0 : Calls Tryd.prog 60 #[.iface 120 (.pointer (some ⟨N, 0, none⟩)), .iface 140 (.pointer (some a1))] w1 fun e w2 => e = .returned (.bool true) ∧ ∃ k, w2 = w1.drewN k := hIs 0
            replace h0 := Lib.hid h0
            replace hd := Lib.hid hd
            have hr := Lib.hid (And.intro r1 r2)
            clear hIs r1 r2
            go_wp2_with (fail)
            refine h0.out.mono ?_
            rintro e w2_ ⟨rfl, k, hk⟩
            have hB2 := Lib.hid (by rw [hk]; exact hB.out.trans ⟨rfl, rfl, rfl, Nat.le_refl _, fun _ _ => rfl⟩ : Below w.heap.size w w2_)
            clear hk h0 c8 hB
            have hB := hB2
            have hok := okD_z hG.out hK.out hd.out hlt9 rfl
            obtain ⟨z0, hz0⟩ : ∃ z, s[1].toNat = z := ⟨_, rfl⟩
            rw [hz0] at hok
            have hidx0 : ∀ w, (Instr.index 9 (.string s) (.int .i64 (1 : Int))).run Tryd.prog w = .ok (.int .u8 (z0 : Int)) w := fun w => idx_run s 1 z0 hlt9 hz0 w
            have hGI : (1 : Int) < (s.size : Int) := by omega
            clear hz0
            by_cases hbad : z0 = 48 ∧ 1 < i
            · obtain ⟨b1, b2⟩ := hbad
              have b3 : (1 : Int) < (i : Int) := by omega
              have hno : Hid (okD s.data.toList = false) := by
                show okD s.data.toList = false
                cases h : okD s.data.toList
                · rfl
                · exact absurd ⟨b1, b2⟩ (hok.1 h)
              clear hok
              subst b1
              go_wp2_with (fail)
              go_returns
              exact ⟨.inr ⟨hno.out, rfl⟩, hB.out⟩
            · have hyes := Lib.hid (hok.2 hbad)
              have hcase : ((z0 : Int) == 48) = false ∨ (((z0 : Int) == 48) = true ∧ ¬ (1 : Int) < (i : Int)) := by
                by_cases h : z0 = 48
                · right; exact ⟨by simp; omega, fun h2 => hbad ⟨h, by omega⟩⟩
                · left; simp; omega
              clear hok hbad
              rcases hcase with b1 | ⟨b1, b2⟩
              all_goals
                go_wp2_with (fail)
                all_goals (try go_quiet (fail))
                all_goals (try go_wp2_with (fail))
                all_goals go_returns
                all_goals exact ⟨.inl ⟨hyes.out, (if (1 : Nat) = 1 then (-16777217 : Int) else 16777217), by unfold inQ; decide, by rw [hV.out]; have h1 := hr.out.1; have h2 := hr.out.2; have h3 := hG.out; unfold Cl; first | (have h4 := h1 h3; simp; omega) | (have h4 := h2 h3; simp; omega), by rw [hK.out, hR] <;> rfl⟩, by first | exact hB.out | exact hB.out.drew | exact hB.out.trans ⟨rfl, rfl, rfl, Nat.le_refl _, fun _ _ => rfl⟩⟩
    · have hG : Hid (sgD s.data.toList = 0) := by
        show sgD s.data.toList = 0
        unfold sgD
        rw [byteq s 0 h0, if_neg]
        rw [Option.some_inj]
        intro h
        exact h45 (by rw [← hz0, h]; rfl)
      have hsz0 : 0 ≤ s.size := Nat.zero_le _
      have h45' : ((z0 : Int) == 45) = false := by simp; omega
      clear hz0 h0 h45
      go_enter Tryd.func58, Tryd.ntmps58
      go_wp2_with (fail)
      clear hidx0 h45'
      go_loop [5] (fun x5 => ∃ i : Nat, x5 = .int .i64 i ∧ 0 ≤ i ∧ i ≤ s.size ∧ Hid (UpD s.data.toList 0 i)) (fun x5 => s.size - (intOf x5).toNat)
      case atStart => exact ⟨0, rfl, Nat.le_refl _, hsz0, Lib.hid (UpD.zero _ _)⟩
      case round =>
        obtain ⟨i, rfl, hgi, his, hQ⟩ := hrel
        by_cases hlt : i < s.size
        · have hlt' : (i : Int) < (s.size : Int) := by omega
          have hby := byteq s i hlt
          obtain ⟨ch, hch⟩ : ∃ ch, s[i] = ch := ⟨_, rfl⟩
          rw [hch] at hby
          obtain ⟨z, hz⟩ : ∃ z, ch.toNat = z := ⟨_, rfl⟩
          have hidx := idx_run s i z hlt (by rw [hch]; exact hz)
          by_cases hd : 48 ≤ z ∧ z ≤ 57
          · have hQ2 := Lib.hid (hQ.out.next hby (isD_iff.2 (by rw [hz]; exact hd)))
            have d1 : (48 : Int) ≤ (z : Int) := by omega
            have d2 : (z : Int) ≤ 57 := by omega
            clear hQ hby hch hz hd
            go_wp2_with (fail)
            exact ⟨⟨i + 1, rfl, by omega, by omega, hQ2⟩, by simp [intOf]; omega⟩
          · have hK : iN s.data.toList = i := iN_is (by rw [hG.out]; exact hgi) (by rw [data_size]; exact his) (by rw [hG.out]; exact hQ.out) (fun c hc => by
              rw [hby] at hc
              rw [← Option.some.inj hc]
              cases h : isD ch
              · rfl
              · exact absurd (isD_iff.1 h) (by rw [hz]; exact hd))
            have hd2 : ¬ (48 : Int) ≤ (z : Int) ∨ ((48 : Int) ≤ (z : Int) ∧ ¬ (z : Int) ≤ 57) := by omega
            clear hQ hby hch hz hd
            rcases hd2 with d1 | ⟨d1, d2⟩
            · skip
              have hiI : (i : Int) ≤ (s.size : Int) := by omega
              have hS1 : (s.extract 0 i).data.toList = s.data.toList.take (iN s.data.toList) := by rw [hK, Lib.extract_eq]; simp
              have hat := atoi_q s (s.extract 0 i) hS1 (by rw [ByteArray.size_extract]; omega) w hM.out
              obtain ⟨S1, hS1e⟩ : ∃ S, s.extract 0 i = S := ⟨_, rfl⟩
              obtain ⟨R, hR⟩ : ∃ S, s.extract i s.size = S := ⟨_, rfl⟩
              rw [hS1e] at hat
              replace hat := Lib.hid hat
              replace hK := Lib.hid hK
              clear hS1
              go_wp2_with (fail)
              refine hat.out.mono ?_
              rintro e w1 ⟨hq, hb⟩
              have c8 := (hE.out.bel hb).ran
              rw [c8] at hq
              unfold sentV at hq c8
              unfold numV at hq
              simp only [Option.getD_some] at hq
              have hB := Lib.hid hb
              obtain ⟨V, hV⟩ : ∃ V, vlD s.data.toList = V := ⟨_, rfl⟩
              rw [hV] at hq
              replace hV := Lib.hid hV
              clear hb hat
              rcases hq with ⟨hd, hv, rfl⟩ | ⟨N, v, hv, rfl, ⟨hd, hIs⟩ | ⟨hd, r1, r2, hIs⟩⟩
              · have hlt9 := dgs_lt hd
                rw [hG.out, hK.out] at hlt9
                replace hlt9 : 0 < s.size := by omega
                have hsn := Lib.hid (fun w => is_snil a1 w)
                unfold sentV at hsn
                replace hd := Lib.hid hd
                replace hv := Lib.hid hv
                go_wp2_with (fail)
                refine (hsn.out _).mono ?_
                rintro e w2_ ⟨rfl, hw2⟩
                have hw2 := hw2.symm
                subst hw2
                clear hsn c8
                have hok := okD_z hG.out hK.out hd.out hlt9 rfl
                obtain ⟨z0, hz0⟩ : ∃ z, s[0].toNat = z := ⟨_, rfl⟩
                rw [hz0] at hok
                have hidx0 : ∀ w, (Instr.index 9 (.string s) (.int .i64 (0 : Int))).run Tryd.prog w = .ok (.int .u8 (z0 : Int)) w := fun w => idx_run s 0 z0 hlt9 hz0 w
                have hGI : (0 : Int) < (s.size : Int) := by omega
                clear hz0
                by_cases hbad : z0 = 48 ∧ 1 < i
                · obtain ⟨b1, b2⟩ := hbad
                  have b3 : (1 : Int) < (i : Int) := by omega
                  have hno : Hid (okD s.data.toList = false) := by
                    show okD s.data.toList = false
                    cases h : okD s.data.toList
                    · rfl
                    · exact absurd ⟨b1, b2⟩ (hok.1 h)
                  clear hok
                  subst b1
                  go_wp2_with (fail)
                  go_returns
                  exact ⟨.inr ⟨hno.out, rfl⟩, hB.out⟩
                · have hyes := Lib.hid (hok.2 hbad)
                  have hcase : ((z0 : Int) == 48) = false ∨ (((z0 : Int) == 48) = true ∧ ¬ (1 : Int) < (i : Int)) := by
                    by_cases h : z0 = 48
                    · right; exact ⟨by simp; omega, fun h2 => hbad ⟨h, by omega⟩⟩
                    · left; simp; omega
                  clear hok hbad
                  rcases hcase with b1 | ⟨b1, b2⟩
                  all_goals
                    go_wp2_with (fail)
                    all_goals (try go_quiet (fail))
                    all_goals (try go_wp2_with (fail))
                    all_goals go_returns
                    all_goals exact ⟨.inl ⟨hyes.out, V, hv.out, by rw [hV.out]; exact Cl.refl _, by rw [hK.out, hR] <;> rfl⟩, by first | exact hB.out | exact hB.out.drew | exact hB.out.trans ⟨rfl, rfl, rfl, Nat.le_refl _, fun _ _ => rfl⟩⟩
              · have hno : Hid (okD s.data.toList = false) := by
                  show okD s.data.toList = false
                  cases h : okD s.data.toList
                  · rfl
                  · exact absurd hd (okD_iff.1 h).1
                have h0 : Calls Tryd.prog 60 #[.iface 120 (.pointer (some ⟨N, 0, none⟩)), .iface 140 (.pointer (some a1))] w1 fun e w2 => e = .returned (.bool false) ∧ ∃ k, w2 = w1.drewN k := hIs 0
                replace h0 := Lib.hid h0
                clear hIs hd
                go_wp2_with (fail)
                refine h0.out.mono ?_
                rintro e w2_ ⟨rfl, k, hk⟩
                have hB2 := Lib.hid (by rw [hk]; exact hB.out.trans ⟨rfl, rfl, rfl, Nat.le_refl _, fun _ _ => rfl⟩ : Below w.heap.size w w2_)
                clear hk h0 c8
                go_wp2_with (fail)
                go_returns
                exact ⟨.inr ⟨hno.out, rfl⟩, hB2.out⟩
              · have hlt9 := dgs_lt hd
                rw [hG.out, hK.out] at hlt9
                replace hlt9 : 0 < s.size := by omega
                have h0 : Calls Tryd.prog 60 #[.iface 120 (.pointer (some ⟨N, 0, none⟩)), .iface 140 (.pointer (some a1))] w1 fun e w2 => e = .returned (.bool true) ∧ ∃ k, w2 = w1.drewN k := hIs 0
                replace h0 := Lib.hid h0
                replace hd := Lib.hid hd
                have hr := Lib.hid (And.intro r1 r2)
                clear hIs r1 r2
                go_wp2_with (fail)
                refine h0.out.mono ?_
                rintro e w2_ ⟨rfl, k, hk⟩
                have hB2 := Lib.hid (by rw [hk]; exact hB.out.trans ⟨rfl, rfl, rfl, Nat.le_refl _, fun _ _ => rfl⟩ : Below w.heap.size w w2_)
                clear hk h0 c8 hB
                have hB := hB2
                have hok := okD_z hG.out hK.out hd.out hlt9 rfl
                obtain ⟨z0, hz0⟩ : ∃ z, s[0].toNat = z := ⟨_, rfl⟩
                rw [hz0] at hok
                have hidx0 : ∀ w, (Instr.index 9 (.string s) (.int .i64 (0 : Int))).run Tryd.prog w = .ok (.int .u8 (z0 : Int)) w := fun w => idx_run s 0 z0 hlt9 hz0 w
                have hGI : (0 : Int) < (s.size : Int) := by omega
                clear hz0
                by_cases hbad : z0 = 48 ∧ 1 < i
                · obtain ⟨b1, b2⟩ := hbad
                  have b3 : (1 : Int) < (i : Int) := by omega
                  have hno : Hid (okD s.data.toList = false) := by
                    show okD s.data.toList = false
                    cases h : okD s.data.toList
                    · rfl
                    · exact absurd ⟨b1, b2⟩ (hok.1 h)
                  clear hok
                  subst b1
                  go_wp2_with (fail)
                  go_returns
                  exact ⟨.inr ⟨hno.out, rfl⟩, hB.out⟩
                · have hyes := Lib.hid (hok.2 hbad)
                  have hcase : ((z0 : Int) == 48) = false ∨ (((z0 : Int) == 48) = true ∧ ¬ (1 : Int) < (i : Int)) := by
                    by_cases h : z0 = 48
                    · right; exact ⟨by simp; omega, fun h2 => hbad ⟨h, by omega⟩⟩
                    · left; simp; omega
                  clear hok hbad
                  rcases hcase with b1 | ⟨b1, b2⟩
                  all_goals
                    go_wp2_with (fail)
                    all_goals (try go_quiet (fail))
                    all_goals (try go_wp2_with (fail))
                    all_goals go_returns
                    all_goals exact ⟨.inl ⟨hyes.out, (if (0 : Nat) = 1 then (-16777217 : Int) else 16777217), by unfold inQ; decide, by rw [hV.out]; have h1 := hr.out.1; have h2 := hr.out.2; have h3 := hG.out; unfold Cl; first | (have h4 := h1 h3; simp; omega) | (have h4 := h2 h3; simp; omega), by rw [hK.out, hR] <;> rfl⟩, by first | exact hB.out | exact hB.out.drew | exact hB.out.trans ⟨rfl, rfl, rfl, Nat.le_refl _, fun _ _ => rfl⟩⟩
            · skip
              have hiI : (i : Int) ≤ (s.size : Int) := by omega
              have hS1 : (s.extract 0 i).data.toList = s.data.toList.take (iN s.data.toList) := by rw [hK, Lib.extract_eq]; simp
              have hat := atoi_q s (s.extract 0 i) hS1 (by rw [ByteArray.size_extract]; omega) w hM.out
              obtain ⟨S1, hS1e⟩ : ∃ S, s.extract 0 i = S := ⟨_, rfl⟩
              obtain ⟨R, hR⟩ : ∃ S, s.extract i s.size = S := ⟨_, rfl⟩
              rw [hS1e] at hat
              replace hat := Lib.hid hat
              replace hK := Lib.hid hK
              clear hS1
              go_wp2_with (fail)
              refine hat.out.mono ?_
              rintro e w1 ⟨hq, hb⟩
              have c8 := (hE.out.bel hb).ran
              rw [c8] at hq
              unfold sentV at hq c8
              unfold numV at hq
              simp only [Option.getD_some] at hq
              have hB := Lib.hid hb
              obtain ⟨V, hV⟩ : ∃ V, vlD s.data.toList = V := ⟨_, rfl⟩
              rw [hV] at hq
              replace hV := Lib.hid hV
              clear hb hat
              rcases hq with ⟨hd, hv, rfl⟩ | ⟨N, v, hv, rfl, ⟨hd, hIs⟩ | ⟨hd, r1, r2, hIs⟩⟩
              · have hlt9 := dgs_lt hd
                rw [hG.out, hK.out] at hlt9
                replace hlt9 : 0 < s.size := by omega
                have hsn := Lib.hid (fun w => is_snil a1 w)
                unfold sentV at hsn
                replace hd := Lib.hid hd
                replace hv := Lib.hid hv
                go_wp2_with (fail)
                refine (hsn.out _).mono ?_
                rintro e w2_ ⟨rfl, hw2⟩
                have hw2 := hw2.symm
                subst hw2
                clear hsn c8
                have hok := okD_z hG.out hK.out hd.out hlt9 rfl
                obtain ⟨z0, hz0⟩ : ∃ z, s[0].toNat = z := ⟨_, rfl⟩
                rw [hz0] at hok
                have hidx0 : ∀ w, (Instr.index 9 (.string s) (.int .i64 (0 : Int))).run Tryd.prog w = .ok (.int .u8 (z0 : Int)) w := fun w => idx_run s 0 z0 hlt9 hz0 w
                have hGI : (0 : Int) < (s.size : Int) := by omega
                clear hz0
                by_cases hbad : z0 = 48 ∧ 1 < i
                · obtain ⟨b1, b2⟩ := hbad
                  have b3 : (1 : Int) < (i : Int) := by omega
                  have hno : Hid (okD s.data.toList = false) := by
                    show okD s.data.toList = false
                    cases h : okD s.data.toList
                    · rfl
                    · exact absurd ⟨b1, b2⟩ (hok.1 h)
                  clear hok
                  subst b1
                  go_wp2_with (fail)
                  go_returns
                  exact ⟨.inr ⟨hno.out, rfl⟩, hB.out⟩
                · have hyes := Lib.hid (hok.2 hbad)
                  have hcase : ((z0 : Int) == 48) = false ∨ (((z0 : Int) == 48) = true ∧ ¬ (1 : Int) < (i : Int)) := by
                    by_cases h : z0 = 48
                    · right; exact ⟨by simp; omega, fun h2 => hbad ⟨h, by omega⟩⟩
                    · left; simp; omega
                  clear hok hbad
                  rcases hcase with b1 | ⟨b1, b2⟩
                  all_goals
                    go_wp2_with (fail)
                    all_goals (try go_quiet (fail))
                    all_goals (try go_wp2_with (fail))
                    all_goals go_returns
                    all_goals exact ⟨.inl ⟨hyes.out, V, hv.out, by rw [hV.out]; exact Cl.refl _, by rw [hK.out, hR] <;> rfl⟩, by first | exact hB.out | exact hB.out.drew | exact hB.out.trans ⟨rfl, rfl, rfl, Nat.le_refl _, fun _ _ => rfl⟩⟩
              · have hno : Hid (okD s.data.toList = false) := by
                  show okD s.data.toList = false
                  cases h : okD s.data.toList
                  · rfl
                  · exact absurd hd (okD_iff.1 h).1
                have h0 : Calls Tryd.prog 60 #[.iface 120 (.pointer (some ⟨N, 0, none⟩)), .iface 140 (.pointer (some a1))] w1 fun e w2 => e = .returned (.bool false) ∧ ∃ k, w2 = w1.drewN k := hIs 0
                replace h0 := Lib.hid h0
                clear hIs hd
                go_wp2_with (fail)
                refine h0.out.mono ?_
                rintro e w2_ ⟨rfl, k, hk⟩
                have hB2 := Lib.hid (by rw [hk]; exact hB.out.trans ⟨rfl, rfl, rfl, Nat.le_refl _, fun _ _ => rfl⟩ : Below w.heap.size w w2_)
                clear hk h0 c8
                go_wp2_with (fail)
                go_returns
                exact ⟨.inr ⟨hno.out, rfl⟩, hB2.out⟩
              · have hlt9 := dgs_lt hd
                rw [hG.out, hK.out] at hlt9
                replace hlt9 : 0 < s.size := by omega
                have h0 : Calls Tryd.prog 60 #[.iface 120 (.pointer (some ⟨N, 0, none⟩)), .iface 140 (.pointer (some a1))] w1 fun e w2 => e = .returned (.bool true) ∧ ∃ k, w2 = w1.drewN k := hIs 0
                replace h0 := Lib.hid h0
                replace hd := Lib.hid hd
                have hr := Lib.hid (And.intro r1 r2)
                clear hIs r1 r2
                go_wp2_with (fail)
                refine h0.out.mono ?_
                rintro e w2_ ⟨rfl, k, hk⟩
                have hB2 := Lib.hid (by rw [hk]; exact hB.out.trans ⟨rfl, rfl, rfl, Nat.le_refl _, fun _ _ => rfl⟩ : Below w.heap.size w w2_)
                clear hk h0 c8 hB
                have hB := hB2
                have hok := okD_z hG.out hK.out hd.out hlt9 rfl
                obtain ⟨z0, hz0⟩ : ∃ z, s[0].toNat = z := ⟨_, rfl⟩
                rw [hz0] at hok
                have hidx0 : ∀ w, (Instr.index 9 (.string s) (.int .i64 (0 : Int))).run Tryd.prog w = .ok (.int .u8 (z0 : Int)) w := fun w => idx_run s 0 z0 hlt9 hz0 w
                have hGI : (0 : Int) < (s.size : Int) := by omega
                clear hz0
                by_cases hbad : z0 = 48 ∧ 1 < i
                · obtain ⟨b1, b2⟩ := hbad
                  have b3 : (1 : Int) < (i : Int) := by omega
                  have hno : Hid (okD s.data.toList = false) := by
                    show okD s.data.toList = false
                    cases h : okD s.data.toList
                    · rfl
                    · exact absurd ⟨b1, b2⟩ (hok.1 h)
                  clear hok
                  subst b1
                  go_wp2_with (fail)
                  go_returns
                  exact ⟨.inr ⟨hno.out, rfl⟩, hB.out⟩
                · have hyes := Lib.hid (hok.2 hbad)
                  have hcase : ((z0 : Int) == 48) = false ∨ (((z0 : Int) == 48) = true ∧ ¬ (1 : Int) < (i : Int)) := by
                    by_cases h : z0 = 48
                    · right; exact ⟨by simp; omega, fun h2 => hbad ⟨h, by omega⟩⟩
                    · left; simp; omega
                  clear hok hbad
                  rcases hcase with b1 | ⟨b1, b2⟩
                  all_goals
                    go_wp2_with (fail)
                    all_goals (try go_quiet (fail))
                    all_goals (try go_wp2_with (fail))
                    all_goals go_returns
                    all_goals exact ⟨.inl ⟨hyes.out, (if (0 : Nat) = 1 then (-16777217 : Int) else 16777217), by unfold inQ; decide, by rw [hV.out]; have h1 := hr.out.1; have h2 := hr.out.2; have h3 := hG.out; unfold Cl; first | (have h4 := h1 h3; simp; omega) | (have h4 := h2 h3; simp; omega), by rw [hK.out, hR] <;> rfl⟩, by first | exact hB.out | exact hB.out.drew | exact hB.out.trans ⟨rfl, rfl, rfl, Nat.le_refl _, fun _ _ => rfl⟩⟩
        · have hlt' : ¬ (i : Int) < (s.size : Int) := by omega
          have hK : iN s.data.toList = i := iN_is (by rw [hG.out]; exact hgi) (by rw [data_size]; exact his) (by rw [hG.out]; exact hQ.out) (fun c hc => by
            have := (List.getElem?_eq_some_iff.1 hc).1
            rw [data_size] at this
            omega)
          clear hQ
          have hiI : (i : Int) ≤ (s.size : Int) := by omega
          have hS1 : (s.extract 0 i).data.toList = s.data.toList.take (iN s.data.toList) := by rw [hK, Lib.extract_eq]; simp
          have hat := atoi_q s (s.extract 0 i) hS1 (by rw [ByteArray.size_extract]; omega) w hM.out
          obtain ⟨S1, hS1e⟩ : ∃ S, s.extract 0 i = S := ⟨_, rfl⟩
          obtain ⟨R, hR⟩ : ∃ S, s.extract i s.size = S := ⟨_, rfl⟩
          rw [hS1e] at hat
          replace hat := Lib.hid hat
          replace hK := Lib.hid hK
          clear hS1
          go_wp2_with (fail)
          refine hat.out.mono ?_
          rintro e w1 ⟨hq, hb⟩
          have c8 := (hE.out.bel hb).ran
          rw [c8] at hq
          unfold sentV at hq c8
          unfold numV at hq
          simp only [Option.getD_some] at hq
          have hB := Lib.hid hb
          obtain ⟨V, hV⟩ : ∃ V, vlD s.data.toList = V := ⟨_, rfl⟩
          rw [hV] at hq
          replace hV := Lib.hid hV
          clear hb hat
          rcases hq with ⟨hd, hv, rfl⟩ | ⟨N, v, hv, rfl, ⟨hd, hIs⟩ | ⟨hd, r1, r2, hIs⟩⟩
          · have hlt9 := dgs_lt hd
            rw [hG.out, hK.out] at hlt9
            replace hlt9 : 0 < s.size := by omega
            have hsn := Lib.hid (fun w => is_snil a1 w)
            unfold sentV at hsn
            replace hd := Lib.hid hd
            replace hv := Lib.hid hv
            go_wp2_with (fail)
            refine (hsn.out _).mono ?_
            rintro e w2_ ⟨rfl, hw2⟩
            have hw2 := hw2.symm
            subst hw2
            clear hsn c8
            have hok := okD_z hG.out hK.out hd.out hlt9 rfl
            obtain ⟨z0, hz0⟩ : ∃ z, s[0].toNat = z := ⟨_, rfl⟩
            rw [hz0] at hok
            have hidx0 : ∀ w, (Instr.index 9 (.string s) (.int .i64 (0 : Int))).run Tryd.prog w = .ok (.int .u8 (z0 : Int)) w := fun w => idx_run s 0 z0 hlt9 hz0 w
            have hGI : (0 : Int) < (s.size : Int) := by omega
            clear hz0
            by_cases hbad : z0 = 48 ∧ 1 < i
            · obtain ⟨b1, b2⟩ := hbad
              have b3 : (1 : Int) < (i : Int) := by omega
              have hno : Hid (okD s.data.toList = false) := by
                show okD s.data.toList = false
                cases h : okD s.data.toList
                · rfl
                · exact absurd ⟨b1, b2⟩ (hok.1 h)
              clear hok
              subst b1
              go_wp2_with (fail)
              go_returns
              exact ⟨.inr ⟨hno.out, rfl⟩, hB.out⟩
            · have hyes := Lib.hid (hok.2 hbad)
              have hcase : ((z0 : Int) == 48) = false ∨ (((z0 : Int) == 48) = true ∧ ¬ (1 : Int) < (i : Int)) := by
                by_cases h : z0 = 48
                · right; exact ⟨by simp; omega, fun h2 => hbad ⟨h, by omega⟩⟩
                · left; simp; omega
              clear hok hbad
              rcases hcase with b1 | ⟨b1, b2⟩
              all_goals
                go_wp2_with (fail)
                all_goals (try go_quiet (fail))
                all_goals (try go_wp2_with (fail))
                all_goals go_returns
                all_goals exact ⟨.inl ⟨hyes.out, V, hv.out, by rw [hV.out]; exact Cl.refl _, by rw [hK.out, hR] <;> rfl⟩, by first | exact hB.out | exact hB.out.drew | exact hB.out.trans ⟨rfl, rfl, rfl, Nat.le_refl _, fun _ _ => rfl⟩⟩
          · have hno : Hid (okD s.data.toList = false) := by
              show okD s.data.toList = false
              cases h : okD s.data.toList
              · rfl
              · exact absurd hd (okD_iff.1 h).1
            have h0 : Calls Tryd.prog 60 #[.iface 120 (.pointer (some ⟨N, 0, none⟩)), .iface 140 (.pointer (some a1))] w1 fun e w2 => e = .returned (.bool false) ∧ ∃ k, w2 = w1.drewN k := hIs 0
            replace h0 := Lib.hid h0
            clear hIs hd
            go_wp2_with (fail)
            refine h0.out.mono ?_
            rintro e w2_ ⟨rfl, k, hk⟩
            have hB2 := Lib.hid (by rw [hk]; exact hB.out.trans ⟨rfl, rfl, rfl, Nat.le_refl _, fun _ _ => rfl⟩ : Below w.heap.size w w2_)
            clear hk h0 c8
            go_wp2_with (fail)
            go_returns
            exact ⟨.inr ⟨hno.out, rfl⟩, hB2.out⟩
          · have hlt9 := dgs_lt hd
            rw [hG.out, hK.out] at hlt9
            replace hlt9 : 0 < s.size := by omega
            have h0 : Calls Tryd.prog 60 #[.iface 120 (.pointer (some ⟨N, 0, none⟩)), .iface 140 (.pointer (some a1))] w1 fun e w2 => e = .returned (.bool true) ∧ ∃ k, w2 = w1.drewN k := hIs 0
            replace h0 := Lib.hid h0
            replace hd := Lib.hid hd
            have hr := Lib.hid (And.intro r1 r2)
            clear hIs r1 r2
            go_wp2_with (fail)
            refine h0.out.mono ?_
            rintro e w2_ ⟨rfl, k, hk⟩
            have hB2 := Lib.hid (by rw [hk]; exact hB.out.trans ⟨rfl, rfl, rfl, Nat.le_refl _, fun _ _ => rfl⟩ : Below w.heap.size w w2_)
            clear hk h0 c8 hB
            have hB := hB2
            have hok := okD_z hG.out hK.out hd.out hlt9 rfl
            obtain ⟨z0, hz0⟩ : ∃ z, s[0].toNat = z := ⟨_, rfl⟩
            rw [hz0] at hok
            have hidx0 : ∀ w, (Instr.index 9 (.string s) (.int .i64 (0 : Int))).run Tryd.prog w = .ok (.int .u8 (z0 : Int)) w := fun w => idx_run s 0 z0 hlt9 hz0 w
            have hGI : (0 : Int) < (s.size : Int) := by omega
            clear hz0
            by_cases hbad : z0 = 48 ∧ 1 < i
            · obtain ⟨b1, b2⟩ := hbad
              have b3 : (1 : Int) < (i : Int) := by omega
              have hno : Hid (okD s.data.toList = false) := by
                show okD s.data.toList = false
                cases h : okD s.data.toList
                · rfl
                · exact absurd ⟨b1, b2⟩ (hok.1 h)
              clear hok
              subst b1
              go_wp2_with (fail)
              go_returns
              exact ⟨.inr ⟨hno.out, rfl⟩, hB.out⟩
            · have hyes := Lib.hid (hok.2 hbad)
              have hcase : ((z0 : Int) == 48) = false ∨ (((z0 : Int) == 48) = true ∧ ¬ (1 : Int) < (i : Int)) := by
                by_cases h : z0 = 48
                · right; exact ⟨by simp; omega, fun h2 => hbad ⟨h, by omega⟩⟩
                · left; simp; omega
              clear hok hbad
              rcases hcase with b1 | ⟨b1, b2⟩
              all_goals
                go_wp2_with (fail)
                all_goals (try go_quiet (fail))
                all_goals (try go_wp2_with (fail))
                all_goals go_returns
                all_goals exact ⟨.inl ⟨hyes.out, (if (0 : Nat) = 1 then (-16777217 : Int) else 16777217), by unfold inQ; decide, by rw [hV.out]; have h1 := hr.out.1; have h2 := hr.out.2; have h3 := hG.out; unfold Cl; first | (have h4 := h1 h3; simp; omega) | (have h4 := h2 h3; simp; omega), by rw [hK.out, hR] <;> rfl⟩, by first | exact hB.out | exact hB.out.drew | exact hB.out.trans ⟨rfl, rfl, rfl, Nat.le_refl _, fun _ _ => rfl⟩⟩
  · have h0' : ¬ (0 : Int) < (s.size : Int) := by omega
    have hG : Hid (sgD s.data.toList = 0) := by
      show sgD s.data.toList = 0
      unfold sgD
      rw [if_neg]
      intro h
      have := (List.getElem?_eq_some_iff.1 h).1
      rw [data_size] at this
      omega
    have hsz0 : 0 ≤ s.size := Nat.zero_le _
    clear h0
    go_enter Tryd.func58, Tryd.ntmps58
    go_wp2_with (fail)
    go_loop [5] (fun x5 => ∃ i : Nat, x5 = .int .i64 i ∧ 0 ≤ i ∧ i ≤ s.size ∧ Hid (UpD s.data.toList 0 i)) (fun x5 => s.size - (intOf x5).toNat)
    case atStart => exact ⟨0, rfl, Nat.le_refl _, hsz0, Lib.hid (UpD.zero _ _)⟩
    case round =>
      obtain ⟨i, rfl, hgi, his, hQ⟩ := hrel
      by_cases hlt : i < s.size
      · have hlt' : (i : Int) < (s.size : Int) := by omega
        have hby := byteq s i hlt
        obtain ⟨ch, hch⟩ : ∃ ch, s[i] = ch := ⟨_, rfl⟩
        rw [hch] at hby
        obtain ⟨z, hz⟩ : ∃ z, ch.toNat = z := ⟨_, rfl⟩
        have hidx := idx_run s i z hlt (by rw [hch]; exact hz)
        by_cases hd : 48 ≤ z ∧ z ≤ 57
        · have hQ2 := Lib.hid (hQ.out.next hby (isD_iff.2 (by rw [hz]; exact hd)))
          have d1 : (48 : Int) ≤ (z : Int) := by omega
          have d2 : (z : Int) ≤ 57 := by omega
          clear hQ hby hch hz hd
          go_wp2_with (fail)
          exact ⟨⟨i + 1, rfl, by omega, by omega, hQ2⟩, by simp [intOf]; omega⟩
        · have hK : iN s.data.toList = i := iN_is (by rw [hG.out]; exact hgi) (by rw [data_size]; exact his) (by rw [hG.out]; exact hQ.out) (fun c hc => by
            rw [hby] at hc
            rw [← Option.some.inj hc]
            cases h : isD ch
            · rfl
            · exact absurd (isD_iff.1 h) (by rw [hz]; exact hd))
          have hd2 : ¬ (48 : Int) ≤ (z : Int) ∨ ((48 : Int) ≤ (z : Int) ∧ ¬ (z : Int) ≤ 57) := by omega
          clear hQ hby hch hz hd
          rcases hd2 with d1 | ⟨d1, d2⟩
          · skip
            have hiI : (i : Int) ≤ (s.size : Int) := by omega
            have hS1 : (s.extract 0 i).data.toList = s.data.toList.take (iN s.data.toList) := by rw [hK, Lib.extract_eq]; simp
            have hat := atoi_q s (s.extract 0 i) hS1 (by rw [ByteArray.size_extract]; omega) w hM.out
            obtain ⟨S1, hS1e⟩ : ∃ S, s.extract 0 i = S := ⟨_, rfl⟩
            obtain ⟨R, hR⟩ : ∃ S, s.extract i s.size = S := ⟨_, rfl⟩
            rw [hS1e] at hat
            replace hat := Lib.hid hat
            replace hK := Lib.hid hK
            clear hS1
            go_wp2_with (fail)
            refine hat.out.mono ?_
            rintro e w1 ⟨hq, hb⟩
            have c8 := (hE.out.bel hb).ran
            rw [c8] at hq
            unfold sentV at hq c8
            unfold numV at hq
            simp only [Option.getD_some] at hq
            have hB := Lib.hid hb
            obtain ⟨V, hV⟩ : ∃ V, vlD s.data.toList = V := ⟨_, rfl⟩
            rw [hV] at hq
            replace hV := Lib.hid hV
            clear hb hat
            rcases hq with ⟨hd, hv, rfl⟩ | ⟨N, v, hv, rfl, ⟨hd, hIs⟩ | ⟨hd, r1, r2, hIs⟩⟩
            · have hlt9 := dgs_lt hd
              rw [hG.out, hK.out] at hlt9
              replace hlt9 : 0 < s.size := by omega
              have hsn := Lib.hid (fun w => is_snil a1 w)
              unfold sentV at hsn
              replace hd := Lib.hid hd
              replace hv := Lib.hid hv
              go_wp2_with (fail)
              refine (hsn.out _).mono ?_
              rintro e w2_ ⟨rfl, hw2⟩
              have hw2 := hw2.symm
              subst hw2
              clear hsn c8
              have hok := okD_z hG.out hK.out hd.out hlt9 rfl
              obtain ⟨z0, hz0⟩ : ∃ z, s[0].toNat = z := ⟨_, rfl⟩
              rw [hz0] at hok
              have hidx0 : ∀ w, (Instr.index 9 (.string s) (.int .i64 (0 : Int))).run Tryd.prog w = .ok (.int .u8 (z0 : Int)) w := fun w => idx_run s 0 z0 hlt9 hz0 w
              have hGI : (0 : Int) < (s.size : Int) := by omega
              clear hz0
              by_cases hbad : z0 = 48 ∧ 1 < i
              · obtain ⟨b1, b2⟩ := hbad
                have b3 : (1 : Int) < (i : Int) := by omega
                have hno : Hid (okD s.data.toList = false) := by
                  show okD s.data.toList = false
                  cases h : okD s.data.toList
                  · rfl
                  · exact absurd ⟨b1, b2⟩ (hok.1 h)
                clear hok
                subst b1
                go_wp2_with (fail)
                go_returns
                exact ⟨.inr ⟨hno.out, rfl⟩, hB.out⟩
              · have hyes := Lib.hid (hok.2 hbad)
                have hcase : ((z0 : Int) == 48) = false ∨ (((z0 : Int) == 48) = true ∧ ¬ (1 : Int) < (i : Int)) := by
                  by_cases h : z0 = 48
                  · right; exact ⟨by simp; omega, fun h2 => hbad ⟨h, by omega⟩⟩
                  · left; simp; omega
                clear hok hbad
                rcases hcase with b1 | ⟨b1, b2⟩
                all_goals
                  go_wp2_with (fail)
                  all_goals (try go_quiet (fail))
                  all_goals (try go_wp2_with (fail))
                  all_goals go_returns
                  all_goals exact ⟨.inl ⟨hyes.out, V, hv.out, by rw [hV.out]; exact Cl.refl _, by rw [hK.out, hR] <;> rfl⟩, by first | exact hB.out | exact hB.out.drew | exact hB.out.trans ⟨rfl, rfl, rfl, Nat.le_refl _, fun _ _ => rfl⟩⟩
            · have hno : Hid (okD s.data.toList = false) := by
                show okD s.data.toList = false
                cases h : okD s.data.toList
                · rfl
                · exact absurd hd (okD_iff.1 h).1
              have h0 : Calls Tryd.prog 60 #[.iface 120 (.pointer (some ⟨N, 0, none⟩)), .iface 140 (.pointer (some a1))] w1 fun e w2 => e = .returned (.bool false) ∧ ∃ k, w2 = w1.drewN k := hIs 0
              replace h0 := Lib.hid h0
              clear hIs hd
              go_wp2_with (fail)
              refine h0.out.mono ?_
              rintro e w2_ ⟨rfl, k, hk⟩
              have hB2 := Lib.hid (by rw [hk]; exact hB.out.trans ⟨rfl, rfl, rfl, Nat.le_refl _, fun _ _ => rfl⟩ : Below w.heap.size w w2_)
              clear hk h0 c8
              go_wp2_with (fail)
              go_returns
              exact ⟨.inr ⟨hno.out, rfl⟩, hB2.out⟩
            · have hlt9 := dgs_lt hd
              rw [hG.out, hK.out] at hlt9
              replace hlt9 : 0 < s.size := by omega
              have h0 : Calls Tryd.prog 60 #[.iface 120 (.pointer (some ⟨N, 0, none⟩)), .iface 140 (.pointer (some a1))] w1 fun e w2 => e = .returned (.bool true) ∧ ∃ k, w2 = w1.drewN k := hIs 0
              replace h0 := Lib.hid h0
              replace hd := Lib.hid hd
              have hr := Lib.hid (And.intro r1 r2)
              clear hIs r1 r2
              go_wp2_with (fail)
              refine h0.out.mono ?_
              rintro e w2_ ⟨rfl, k, hk⟩
              have hB2 := Lib.hid (by rw [hk]; exact hB.out.trans ⟨rfl, rfl, rfl, Nat.le_refl _, fun _ _ => rfl⟩ : Below w.heap.size w w2_)
              clear hk h0 c8 hB
              have hB := hB2
              have hok := okD_z hG.out hK.out hd.out hlt9 rfl
              obtain ⟨z0, hz0⟩ : ∃ z, s[0].toNat = z := ⟨_, rfl⟩
              rw [hz0] at hok
              have hidx0 : ∀ w, (Instr.index 9 (.string s) (.int .i64 (0 : Int))).run Tryd.prog w = .ok (.int .u8 (z0 : Int)) w := fun w => idx_run s 0 z0 hlt9 hz0 w
              have hGI : (0 : Int) < (s.size : Int) := by omega
              clear hz0
              by_cases hbad : z0 = 48 ∧ 1 < i
              · obtain ⟨b1, b2⟩ := hbad
                have b3 : (1 : Int) < (i : Int) := by omega
                have hno : Hid (okD s.data.toList = false) := by
                  show okD s.data.toList = false
                  cases h : okD s.data.toList
                  · rfl
                  · exact absurd ⟨b1, b2⟩ (hok.1 h)
                clear hok
                subst b1
                go_wp2_with (fail)
                go_returns
                exact ⟨.inr ⟨hno.out, rfl⟩, hB.out⟩
              · have hyes := Lib.hid (hok.2 hbad)
                have hcase : ((z0 : Int) == 48) = false ∨ (((z0 : Int) == 48) = true ∧ ¬ (1 : Int) < (i : Int)) := by
                  by_cases h : z0 = 48
                  · right; exact ⟨by simp; omega, fun h2 => hbad ⟨h, by omega⟩⟩
                  · left; simp; omega
                clear hok hbad
                rcases hcase with b1 | ⟨b1, b2⟩
                all_goals
                  go_wp2_with (fail)
                  all_goals (try go_quiet (fail))
                  all_goals (try go_wp2_with (fail))
                  all_goals go_returns
                  all_goals exact ⟨.inl ⟨hyes.out, (if (0 : Nat) = 1 then (-16777217 : Int) else 16777217), by unfold inQ; decide, by rw [hV.out]; have h1 := hr.out.1; have h2 := hr.out.2; have h3 := hG.out; unfold Cl; first | (have h4 := h1 h3; simp; omega) | (have h4 := h2 h3; simp; omega), by rw [hK.out, hR] <;> rfl⟩, by first | exact hB.out | exact hB.out.drew | exact hB.out.trans ⟨rfl, rfl, rfl, Nat.le_refl _, fun _ _ => rfl⟩⟩
          · skip
            have hiI : (i : Int) ≤ (s.size : Int) := by omega
            have hS1 : (s.extract 0 i).data.toList = s.data.toList.take (iN s.data.toList) := by rw [hK, Lib.extract_eq]; simp
            have hat := atoi_q s (s.extract 0 i) hS1 (by rw [ByteArray.size_extract]; omega) w hM.out
            obtain ⟨S1, hS1e⟩ : ∃ S, s.extract 0 i = S := ⟨_, rfl⟩
            obtain ⟨R, hR⟩ : ∃ S, s.extract i s.size = S := ⟨_, rfl⟩
            rw [hS1e] at hat
            replace hat := Lib.hid hat
            replace hK := Lib.hid hK
            clear hS1
            go_wp2_with (fail)
            refine hat.out.mono ?_
            rintro e w1 ⟨hq, hb⟩
            have c8 := (hE.out.bel hb).ran
            rw [c8] at hq
            unfold sentV at hq c8
            unfold numV at hq
            simp only [Option.getD_some] at hq
            have hB := Lib.hid hb
            obtain ⟨V, hV⟩ : ∃ V, vlD s.data.toList = V := ⟨_, rfl⟩
            rw [hV] at hq
            replace hV := Lib.hid hV
            clear hb hat
            rcases hq with ⟨hd, hv, rfl⟩ | ⟨N, v, hv, rfl, ⟨hd, hIs⟩ | ⟨hd, r1, r2, hIs⟩⟩
            · have hlt9 := dgs_lt hd
              rw [hG.out, hK.out] at hlt9
              replace hlt9 : 0 < s.size := by omega
              have hsn := Lib.hid (fun w => is_snil a1 w)
              unfold sentV at hsn
              replace hd := Lib.hid hd
              replace hv := Lib.hid hv
              go_wp2_with (fail)
              refine (hsn.out _).mono ?_
              rintro e w2_ ⟨rfl, hw2⟩
              have hw2 := hw2.symm
              subst hw2
              clear hsn c8
              have hok := okD_z hG.out hK.out hd.out hlt9 rfl
              obtain ⟨z0, hz0⟩ : ∃ z, s[0].toNat = z := ⟨_, rfl⟩
              rw [hz0] at hok
              have hidx0 : ∀ w, (Instr.index 9 (.string s) (.int .i64 (0 : Int))).run Tryd.prog w = .ok (.int .u8 (z0 : Int)) w := fun w => idx_run s 0 z0 hlt9 hz0 w
              have hGI : (0 : Int) < (s.size : Int) := by omega
              clear hz0
              by_cases hbad : z0 = 48 ∧ 1 < i
              · obtain ⟨b1, b2⟩ := hbad
                have b3 : (1 : Int) < (i : Int) := by omega
                have hno : Hid (okD s.data.toList = false) := by
                  show okD s.data.toList = false
                  cases h : okD s.data.toList
                  · rfl
                  · exact absurd ⟨b1, b2⟩ (hok.1 h)
                clear hok
                subst b1
                go_wp2_with (fail)
                go_returns
                exact ⟨.inr ⟨hno.out, rfl⟩, hB.out⟩
              · have hyes := Lib.hid (hok.2 hbad)
                have hcase : ((z0 : Int) == 48) = false ∨ (((z0 : Int) == 48) = true ∧ ¬ (1 : Int) < (i : Int)) := by
                  by_cases h : z0 = 48
                  · right; exact ⟨by simp; omega, fun h2 => hbad ⟨h, by omega⟩⟩
                  · left; simp; omega
                clear hok hbad
                rcases hcase with b1 | ⟨b1, b2⟩
                all_goals
                  go_wp2_with (fail)
                  all_goals (try go_quiet (fail))
                  all_goals (try go_wp2_with (fail))
                  all_goals go_returns
                  all_goals exact ⟨.inl ⟨hyes.out, V, hv.out, by rw [hV.out]; exact Cl.refl _, by rw [hK.out, hR] <;> rfl⟩, by first | exact hB.out | exact hB.out.drew | exact hB.out.trans ⟨rfl, rfl, rfl, Nat.le_refl _, fun _ _ => rfl⟩⟩
            · have hno : Hid (okD s.data.toList = false) := by
                show okD s.data.toList = false
                cases h : okD s.data.toList
                · rfl
                · exact absurd hd (okD_iff.1 h).1
              have h0 : Calls Tryd.prog 60 #[.iface 120 (.pointer (some ⟨N, 0, none⟩)), .iface 140 (.pointer (some a1))] w1 fun e w2 => e = .returned (.bool false) ∧ ∃ k, w2 = w1.drewN k := hIs 0
              replace h0 := Lib.hid h0
              clear hIs hd
              go_wp2_with (fail)
              refine h0.out.mono ?_
              rintro e w2_ ⟨rfl, k, hk⟩
              have hB2 := Lib.hid (by rw [hk]; exact hB.out.trans ⟨rfl, rfl, rfl, Nat.le_refl _, fun _ _ => rfl⟩ : Below w.heap.size w w2_)
              clear hk h0 c8
              go_wp2_with (fail)
              go_returns
              exact ⟨.inr ⟨hno.out, rfl⟩, hB2.out⟩
            · have hlt9 := dgs_lt hd
              rw [hG.out, hK.out] at hlt9
              replace hlt9 : 0 < s.size := by omega
              have h0 : Calls Tryd.prog 60 #[.iface 120 (.pointer (some ⟨N, 0, none⟩)), .iface 140 (.pointer (some a1))] w1 fun e w2 => e = .returned (.bool true) ∧ ∃ k, w2 = w1.drewN k := hIs 0
              replace h0 := Lib.hid h0
              replace hd := Lib.hid hd
              have hr := Lib.hid (And.intro r1 r2)
              clear hIs r1 r2
              go_wp2_with (fail)
              refine h0.out.mono ?_
              rintro e w2_ ⟨rfl, k, hk⟩
              have hB2 := Lib.hid (by rw [hk]; exact hB.out.trans ⟨rfl, rfl, rfl, Nat.le_refl _, fun _ _ => rfl⟩ : Below w.heap.size w w2_)
              clear hk h0 c8 hB
              have hB := hB2
              have hok := okD_z hG.out hK.out hd.out hlt9 rfl
              obtain ⟨z0, hz0⟩ : ∃ z, s[0].toNat = z := ⟨_, rfl⟩
              rw [hz0] at hok
              have hidx0 : ∀ w, (Instr.index 9 (.string s) (.int .i64 (0 : Int))).run Tryd.prog w = .ok (.int .u8 (z0 : Int)) w := fun w => idx_run s 0 z0 hlt9 hz0 w
              have hGI : (0 : Int) < (s.size : Int) := by omega
              clear hz0
              by_cases hbad : z0 = 48 ∧ 1 < i
              · obtain ⟨b1, b2⟩ := hbad
                have b3 : (1 : Int) < (i : Int) := by omega
                have hno : Hid (okD s.data.toList = false) := by
                  show okD s.data.toList = false
                  cases h : okD s.data.toList
                  · rfl
                  · exact absurd ⟨b1, b2⟩ (hok.1 h)
                clear hok
                subst b1
                go_wp2_with (fail)
                go_returns
                exact ⟨.inr ⟨hno.out, rfl⟩, hB.out⟩
              · have hyes := Lib.hid (hok.2 hbad)
                have hcase : ((z0 : Int) == 48) = false ∨ (((z0 : Int) == 48) = true ∧ ¬ (1 : Int) < (i : Int)) := by
                  by_cases h : z0 = 48
                  · right; exact ⟨by simp; omega, fun h2 => hbad ⟨h, by omega⟩⟩
                  · left; simp; omega
                clear hok hbad
                rcases hcase with b1 | ⟨b1, b2⟩
                all_goals
                  go_wp2_with (fail)
                  all_goals (try go_quiet (fail))
                  all_goals (try go_wp2_with (fail))
                  all_goals go_returns
                  all_goals exact ⟨.inl ⟨hyes.out, (if (0 : Nat) = 1 then (-16777217 : Int) else 16777217), by unfold inQ; decide, by rw [hV.out]; have h1 := hr.out.1; have h2 := hr.out.2; have h3 := hG.out; unfold Cl; first | (have h4 := h1 h3; simp; omega) | (have h4 := h2 h3; simp; omega), by rw [hK.out, hR] <;> rfl⟩, by first | exact hB.out | exact hB.out.drew | exact hB.out.trans ⟨rfl, rfl, rfl, Nat.le_refl _, fun _ _ => rfl⟩⟩
      · have hlt' : ¬ (i : Int) < (s.size : Int) := by omega
        have hK : iN s.data.toList = i := iN_is (by rw [hG.out]; exact hgi) (by rw [data_size]; exact his) (by rw [hG.out]; exact hQ.out) (fun c hc => by
          have := (List.getElem?_eq_some_iff.1 hc).1
          rw [data_size] at this
          omega)
        clear hQ
        have hiI : (i : Int) ≤ (s.size : Int) := by omega
        have hS1 : (s.extract 0 i).data.toList = s.data.toList.take (iN s.data.toList) := by rw [hK, Lib.extract_eq]; simp
        have hat := atoi_q s (s.extract 0 i) hS1 (by rw [ByteArray.size_extract]; omega) w hM.out
        obtain ⟨S1, hS1e⟩ : ∃ S, s.extract 0 i = S := ⟨_, rfl⟩
        obtain ⟨R, hR⟩ : ∃ S, s.extract i s.size = S := ⟨_, rfl⟩
        rw [hS1e] at hat
        replace hat := Lib.hid hat
        replace hK := Lib.hid hK
        clear hS1
        go_wp2_with (fail)
        refine hat.out.mono ?_
        rintro e w1 ⟨hq, hb⟩
        have c8 := (hE.out.bel hb).ran
        rw [c8] at hq
        unfold sentV at hq c8
        unfold numV at hq
        simp only [Option.getD_some] at hq
        have hB := Lib.hid hb
        obtain ⟨V, hV⟩ : ∃ V, vlD s.data.toList = V := ⟨_, rfl⟩
        rw [hV] at hq
        replace hV := Lib.hid hV
        clear hb hat
        rcases hq with ⟨hd, hv, rfl⟩ | ⟨N, v, hv, rfl, ⟨hd, hIs⟩ | ⟨hd, r1, r2, hIs⟩⟩
        · have hlt9 := dgs_lt hd
          rw [hG.out, hK.out] at hlt9
          replace hlt9 : 0 < s.size := by omega
          have hsn := Lib.hid (fun w => is_snil a1 w)
          unfold sentV at hsn
          replace hd := Lib.hid hd
          replace hv := Lib.hid hv
          go_wp2_with (fail)
          refine (hsn.out _).mono ?_
          rintro e w2_ ⟨rfl, hw2⟩
          have hw2 := hw2.symm
          subst hw2
          clear hsn c8
          have hok := okD_z hG.out hK.out hd.out hlt9 rfl
          obtain ⟨z0, hz0⟩ : ∃ z, s[0].toNat = z := ⟨_, rfl⟩
          rw [hz0] at hok
          have hidx0 : ∀ w, (Instr.index 9 (.string s) (.int .i64 (0 : Int))).run Tryd.prog w = .ok (.int .u8 (z0 : Int)) w := fun w => idx_run s 0 z0 hlt9 hz0 w
          have hGI : (0 : Int) < (s.size : Int) := by omega
          clear hz0
          by_cases hbad : z0 = 48 ∧ 1 < i
          · obtain ⟨b1, b2⟩ := hbad
            have b3 : (1 : Int) < (i : Int) := by omega
            have hno : Hid (okD s.data.toList = false) := by
              show okD s.data.toList = false
              cases h : okD s.data.toList
              · rfl
              · exact absurd ⟨b1, b2⟩ (hok.1 h)
            clear hok
            subst b1
            go_wp2_with (fail)
            go_returns
            exact ⟨.inr ⟨hno.out, rfl⟩, hB.out⟩
          · have hyes := Lib.hid (hok.2 hbad)
            have hcase : ((z0 : Int) == 48) = false ∨ (((z0 : Int) == 48) = true ∧ ¬ (1 : Int) < (i : Int)) := by
              by_cases h : z0 = 48
              · right; exact ⟨by simp; omega, fun h2 => hbad ⟨h, by omega⟩⟩
              · left; simp; omega
            clear hok hbad
            rcases hcase with b1 | ⟨b1, b2⟩
            all_goals
              go_wp2_with (fail)
              all_goals (try go_quiet (fail))
              all_goals (try go_wp2_with (fail))
              all_goals go_returns
              all_goals exact ⟨.inl ⟨hyes.out, V, hv.out, by rw [hV.out]; exact Cl.refl _, by rw [hK.out, hR] <;> rfl⟩, by first | exact hB.out | exact hB.out.drew | exact hB.out.trans ⟨rfl, rfl, rfl, Nat.le_refl _, fun _ _ => rfl⟩⟩
        · have hno : Hid (okD s.data.toList = false) := by
            show okD s.data.toList = false
            cases h : okD s.data.toList
            · rfl
            · exact absurd hd (okD_iff.1 h).1
          have h0 : Calls Tryd.prog 60 #[.iface 120 (.pointer (some ⟨N, 0, none⟩)), .iface 140 (.pointer (some a1))] w1 fun e w2 => e = .returned (.bool false) ∧ ∃ k, w2 = w1.drewN k := hIs 0
          replace h0 := Lib.hid h0
          clear hIs hd
          go_wp2_with (fail)
          refine h0.out.mono ?_
          rintro e w2_ ⟨rfl, k, hk⟩
          have hB2 := Lib.hid (by rw [hk]; exact hB.out.trans ⟨rfl, rfl, rfl, Nat.le_refl _, fun _ _ => rfl⟩ : Below w.heap.size w w2_)
          clear hk h0 c8
          go_wp2_with (fail)
          go_returns
          exact ⟨.inr ⟨hno.out, rfl⟩, hB2.out⟩
        · have hlt9 := dgs_lt hd
          rw [hG.out, hK.out] at hlt9
          replace hlt9 : 0 < s.size := by omega
          have h0 : Calls Tryd.prog 60 #[.iface 120 (.pointer (some ⟨N, 0, none⟩)), .iface 140 (.pointer (some a1))] w1 fun e w2 => e = .returned (.bool true) ∧ ∃ k, w2 = w1.drewN k := hIs 0
          replace h0 := Lib.hid h0
          replace hd := Lib.hid hd
          have hr := Lib.hid (And.intro r1 r2)
          clear hIs r1 r2
          go_wp2_with (fail)
          refine h0.out.mono ?_
          rintro e w2_ ⟨rfl, k, hk⟩
          have hB2 := Lib.hid (by rw [hk]; exact hB.out.trans ⟨rfl, rfl, rfl, Nat.le_refl _, fun _ _ => rfl⟩ : Below w.heap.size w w2_)
          clear hk h0 c8 hB
          have hB := hB2
          have hok := okD_z hG.out hK.out hd.out hlt9 rfl
          obtain ⟨z0, hz0⟩ : ∃ z, s[0].toNat = z := ⟨_, rfl⟩
          rw [hz0] at hok
          have hidx0 : ∀ w, (Instr.index 9 (.string s) (.int .i64 (0 : Int))).run Tryd.prog w = .ok (.int .u8 (z0 : Int)) w := fun w => idx_run s 0 z0 hlt9 hz0 w
          have hGI : (0 : Int) < (s.size : Int) := by omega
          clear hz0
          by_cases hbad : z0 = 48 ∧ 1 < i
          · obtain ⟨b1, b2⟩ := hbad
            have b3 : (1 : Int) < (i : Int) := by omega
            have hno : Hid (okD s.data.toList = false) := by
              show okD s.data.toList = false
              cases h : okD s.data.toList
              · rfl
              · exact absurd ⟨b1, b2⟩ (hok.1 h)
            clear hok
            subst b1
            go_wp2_with (fail)
            go_returns
            exact ⟨.inr ⟨hno.out, rfl⟩, hB.out⟩
          · have hyes := Lib.hid (hok.2 hbad)
            have hcase : ((z0 : Int) == 48) = false ∨ (((z0 : Int) == 48) = true ∧ ¬ (1 : Int) < (i : Int)) := by
              by_cases h : z0 = 48
              · right; exact ⟨by simp; omega, fun h2 => hbad ⟨h, by omega⟩⟩
              · left; simp; omega
            clear hok hbad
            rcases hcase with b1 | ⟨b1, b2⟩
            all_goals
              go_wp2_with (fail)
              all_goals (try go_quiet (fail))
              all_goals (try go_wp2_with (fail))
              all_goals go_returns
              all_goals exact ⟨.inl ⟨hyes.out, (if (0 : Nat) = 1 then (-16777217 : Int) else 16777217), by unfold inQ; decide, by rw [hV.out]; have h1 := hr.out.1; have h2 := hr.out.2; have h3 := hG.out; unfold Cl; first | (have h4 := h1 h3; simp; omega) | (have h4 := h2 h3; simp; omega), by rw [hK.out, hR] <;> rfl⟩, by first | exact hB.out | exact hB.out.drew | exact hB.out.trans ⟨rfl, rfl, rfl, Nat.le_refl _, fun _ _ => rfl⟩⟩
end Go.Proofs.YtmmfjonoenmplaaDoor
