import Derived.Test.YtpbloennjcjgoaaDoorResL
import Derived.Test.YtpbloennjcjgoaaDoorResN
import Derived.Test.YtpbloennjcjgoaaDoorResQ
namespace Go.Proofs.YtpbloennjcjgoaaDoor
open Go.RowKit
set_option linter.unusedVariables false
set_option linter.unusedSimpArgs false
theorem print_both (st da re : ByteArray) (h l : Int) (z1 : st.size ≤ maxLen) (z2 : da.size ≤ maxLen) (z3 : re.size ≤ maxLen) : ∃ (X : ByteArray) (ec : Int) (ok : Bool), (ec = 0 ∧ ok = true ∨ ec = 2 ∧ ok = false) ∧
    (∀ W, Mark W → Calls Tryd.prog 10 #[.agg #[.string st, .string da, .string re, .int .i64 h, .int .i64 l]] W fun e w' => e = .returned (.tuple #[.string X, .int .i64 ec]) ∧ Below W.heap.size W w') ∧
    (∀ W, Calls Tryd.prog 11 #[.agg #[.string st, .string da, .string re, .int .i64 h, .int .i64 l]] W fun e w' => e = .returned (.tuple #[.string X, .bool ok]) ∧ Below W.heap.size W w') := by
  by_cases hf : Fit st da re
  · exact ⟨⟨(printL st da re h l).toArray⟩, 0, true, .inl ⟨rfl, rfl⟩, fun W hM => print_yes st da re h l W hf hM, fun W => rprint_yes st da re h l W hf⟩
  · exact ⟨ByteArray.empty, 2, false, .inr ⟨rfl, rfl⟩, fun W hM => print_no st da re h l W hf z1 z2 z3, fun W => rprint_no st da re h l W hf z1 z2 z3⟩
theorem parse_both (s : ByteArray) (z : s.size ≤ maxLen) : ∃ (sv dv_ rv : ByteArray) (hv lv fc : Int) (is : Bool), (fc = 0 ∧ is = true ∨ fc = 4 ∧ is = false) ∧
    (∀ W, Mark W → Calls Tryd.prog 13 #[.string s] W fun e w' => e = .returned (.tuple #[.agg #[.string sv, .string dv_, .string rv, .int .i64 hv, .int .i64 lv], .int .i64 fc]) ∧ Below W.heap.size W w') ∧
    (∀ W, Calls Tryd.prog 14 #[.string s] W fun e w' => e = .returned (.tuple #[.agg #[.string sv, .string dv_, .string rv, .int .i64 hv, .int .i64 lv], .bool is]) ∧ Below W.heap.size W w') := by
  have hs : s.size ≤ 9223372036854775807 := z
  by_cases h52 : s.size < 52
  · exact ⟨ByteArray.empty, ByteArray.empty, ByteArray.empty, 0, 0, 4, false, .inr ⟨rfl, rfl⟩, fun W hM => parse_short s W hM hs h52, fun W => rparse_short s W hs h52⟩
  · by_cases hmk : s.data.toList.take 4 = mark4
    · by_cases hrc : (rdN s 4 ≤ 65536 ∧ rdN s 12 ≤ 4096 ∧ rdN s 20 ≤ 4096) ∧ s.size = 52 + rdN s 4 + rdN s 12 + rdN s 20 ∧ sumL (s.data.toList.take (s.size - 8)) = rdN s (s.size - 8)
      · exact ⟨_, _, _, _, _, 0, true, .inl ⟨rfl, rfl⟩, fun W hM => parse_yes s W hM hs (by omega) hmk hrc, fun W => rparse_yes s W hs (by omega) hmk hrc⟩
      · exact ⟨ByteArray.empty, ByteArray.empty, ByteArray.empty, 0, 0, 4, false, .inr ⟨rfl, rfl⟩, fun W hM => parse_no s W hM hs (by omega) hmk hrc, fun W => rparse_no s W hs (by omega) hmk hrc⟩
    · exact ⟨ByteArray.empty, ByteArray.empty, ByteArray.empty, 0, 0, 4, false, .inr ⟨rfl, rfl⟩, fun W hM => parse_mark s W hM hs (by omega) hmk, fun W => rparse_mark s W hs (by omega) hmk⟩
set_option maxHeartbeats 4000000 in
set_option maxRecDepth 100000 in
theorem walk_forms (st da re : ByteArray) (h l : Int) (s : ByteArray) (w : World) (hM : Mark w) (z1 : st.size ≤ maxLen) (z2 : da.size ≤ maxLen) (z3 : re.size ≤ maxLen) (u1 : -9223372036854775808 ≤ h ∧ h ≤ 9223372036854775807) (u2 : -9223372036854775808 ≤ l ∧ l ≤ 9223372036854775807) (z4 : s.size ≤ maxLen) :
    Calls Tryd.prog 3 #[.agg #[.string st, .string da, .string re, .int .i64 h, .int .i64 l], .string s] w fun e w' => e = .returned (.bool true) ∧ Below w.heap.size w w' := by
  obtain ⟨X, ec, ok, hpo, hP, hR⟩ := print_both st da re h l z1 z2 z3
  obtain ⟨sv, dv_, rv, hv, lv, fc, is, hfi, hA, hQ⟩ := parse_both s z4
  replace hP := Lib.hid hP
  replace hR := Lib.hid hR
  replace hA := Lib.hid hA
  replace hQ := Lib.hid hQ
  have hK := Bk.fresh w 23 #[.string st, .string da, .string re, .int .i64 h, .int .i64 l]
  have hB := (Below.refl w.heap.size w).alloc (Nat.le_refl _) (.cells #[.string st, .string da, .string re, .int .i64 h, .int .i64 l] 23)
  obtain ⟨w0, hw0⟩ : ∃ w0, w.alloc (.cells #[.string st, .string da, .string re, .int .i64 h, .int .i64 l] 23) = w0 := ⟨_, rfl⟩
  rw [hw0] at hK hB
  replace hM := Lib.hid hM
  rcases hpo with ⟨rfl, rfl⟩ | ⟨rfl, rfl⟩ <;> rcases hfi with ⟨rfl, rfl⟩ | ⟨rfl, rfl⟩
  all_goals (
    go_enter Tryd.func3, Tryd.ntmps3
    go_wp2_with (fail)
    clear hw0
    refine (shown_any w0 (hM.out.kept hB hM.out.1)).mono ?_
    rintro e w1 ⟨rfl, hb⟩
    replace hK := hK.kept hb hK.lt
    replace hB := hB.trans (hb.mono hB.size)
    clear hb
    have c0 := hK.cell 0
    have c1 := hK.cell 1
    have c2 := hK.cell 2
    have c3 := hK.cell 3
    have c4 := hK.cell 4
    simp at c0 c1 c2 c3 c4
    go_wp2_with (fail)
    refine (hP.out w1 (hM.out.kept hB hM.out.1)).mono ?_
    rintro e w2 ⟨rfl, hb⟩
    replace hK := hK.kept hb hK.lt
    replace hB := hB.trans (hb.mono hB.size)
    clear hb c0 c1 c2 c3 c4
    have c0 := hK.cell 0
    have c1 := hK.cell 1
    have c2 := hK.cell 2
    have c3 := hK.cell 3
    have c4 := hK.cell 4
    simp at c0 c1 c2 c3 c4
    go_wp2_with (fail)
    refine (of_agg st da re h l w2).mono ?_
    rintro e w3 ⟨rfl, hb⟩
    replace hB := hB.trans (hb.mono hB.size)
    clear hb c0 c1 c2 c3 c4 hK
    go_wp2_with (fail)
    refine (hR.out w3).mono ?_
    rintro e w4 ⟨rfl, hb⟩
    replace hB := hB.trans (hb.mono hB.size)
    clear hb
    go_wp2_with (fail)
    refine (hA.out w4 (hM.out.kept hB hM.out.1)).mono ?_
    rintro e w5 ⟨rfl, hb⟩
    replace hB := hB.trans (hb.mono hB.size)
    clear hb
    go_wp2_with (fail)
    have hK := Bk.fresh w5 23 #[.string sv, .string dv_, .string rv, .int .i64 hv, .int .i64 lv]
    replace hB := hB.alloc hB.size (.cells #[.string sv, .string dv_, .string rv, .int .i64 hv, .int .i64 lv] 23)
    obtain ⟨w6, hw6⟩ : ∃ w6, w5.alloc (.cells #[.string sv, .string dv_, .string rv, .int .i64 hv, .int .i64 lv] 23) = w6 := ⟨_, rfl⟩
    rw [hw6] at hK hB ⊢
    clear hw6
    obtain ⟨pa, hpa⟩ : ∃ pa, w5.heap.size = pa := ⟨_, rfl⟩
    rw [hpa] at hK ⊢
    clear hpa
    refine (hQ.out w6).mono ?_
    rintro e w7 ⟨rfl, hb⟩
    replace hK := hK.kept hb hK.lt
    replace hB := hB.trans (hb.mono hB.size)
    clear hb
    have hK2 := Bk.fresh w7 30 #[.string sv, .string dv_, .string rv, .int .i64 hv, .int .i64 lv]
    have hpl := hK.lt
    replace hK := hK.past (.cells #[.string sv, .string dv_, .string rv, .int .i64 hv, .int .i64 lv] 30)
    replace hB := hB.alloc hB.size (.cells #[.string sv, .string dv_, .string rv, .int .i64 hv, .int .i64 lv] 30)
    go_wp2_with (fail)
    obtain ⟨w8, hw8⟩ : ∃ w8, w7.alloc (.cells #[.string sv, .string dv_, .string rv, .int .i64 hv, .int .i64 lv] 30) = w8 := ⟨_, rfl⟩
    rw [hw8] at hK hK2 hB ⊢
    clear hw8
    obtain ⟨pb, hpb⟩ : ∃ pb, w7.heap.size = pb := ⟨_, rfl⟩
    rw [hpb] at hK2 hpl ⊢
    clear hpb
    have hpb8 := hK2.lt
    have c0 := hK.cell 0
    have c1 := hK.cell 1
    have c2 := hK.cell 2
    have c3 := hK.cell 3
    have c4 := hK.cell 4
    have c5 := hK2.cell 0
    have c6 := hK2.cell 1
    have c7 := hK2.cell 2
    have c8 := hK2.cell 3
    have c9 := hK2.cell 4
    simp at c0 c1 c2 c3 c4 c5 c6 c7 c8 c9
    clear hK hK2
    have hsz := hB.size
    have heq := fun w => eql_a 30 (.inr rfl) sv dv_ rv sv dv_ rv hv lv hv lv w true (.inl ⟨rfl, rfl, rfl, rfl, rfl, rfl⟩)
    unfold stateV at heq
    first
      | (go_region_held (fun w' => w'.cell? ⟨pa, 0, none⟩ = some (.string sv) ∧ w'.cell? ⟨pa, 1, none⟩ = some (.string dv_) ∧ w'.cell? ⟨pa, 2, none⟩ = some (.string rv) ∧ w'.cell? ⟨pa, 3, none⟩ = some (.int .i64 hv) ∧ w'.cell? ⟨pa, 4, none⟩ = some (.int .i64 lv) ∧ w'.cell? ⟨pb, 0, none⟩ = some (.string sv) ∧ w'.cell? ⟨pb, 1, none⟩ = some (.string dv_) ∧ w'.cell? ⟨pb, 2, none⟩ = some (.string rv) ∧ w'.cell? ⟨pb, 3, none⟩ = some (.int .i64 hv) ∧ w'.cell? ⟨pb, 4, none⟩ = some (.int .i64 lv)) ((simp [go_sem, *]))
        ((go_at_call 12; (with_reducible refine (of_agg sv dv_ rv hv lv _).mono ?_); rintro e w1 ⟨rfl, hb1⟩; have hB1 : Below w.heap.size w w1 := Below.trans (by first | assumption | (refine Below.drew ?_; assumption)) (hb1.mono (by first | omega | (simp only [World.size_drew]; omega))); have kS : w1.cell? ⟨pa, 0, none⟩ = some (.string sv) ∧ w1.cell? ⟨pa, 1, none⟩ = some (.string dv_) ∧ w1.cell? ⟨pa, 2, none⟩ = some (.string rv) ∧ w1.cell? ⟨pa, 3, none⟩ = some (.int .i64 hv) ∧ w1.cell? ⟨pa, 4, none⟩ = some (.int .i64 lv) ∧ w1.cell? ⟨pb, 0, none⟩ = some (.string sv) ∧ w1.cell? ⟨pb, 1, none⟩ = some (.string dv_) ∧ w1.cell? ⟨pb, 2, none⟩ = some (.string rv) ∧ w1.cell? ⟨pb, 3, none⟩ = some (.int .i64 hv) ∧ w1.cell? ⟨pb, 4, none⟩ = some (.int .i64 lv) := by (refine ⟨?_, ?_, ?_, ?_, ?_, ?_, ?_, ?_, ?_, ?_⟩ <;> (refine carry hb1 (by first | omega | (simp only [World.size_drew]; omega)) ?_; simp [go_sem, *])))))
      | (fail)
    all_goals (go_wp2_with (fail))
    all_goals go_returns
    all_goals exact ⟨rfl, hB1⟩)
end Go.Proofs.YtpbloennjcjgoaaDoor
