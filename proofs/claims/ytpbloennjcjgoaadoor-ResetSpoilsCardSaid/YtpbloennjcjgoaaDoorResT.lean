import Derived.Test.YtpbloennjcjgoaaDoorResS
import Derived.Test.YtpbloennjcjgoaaDoorPick
import Derived.Laws.BitsAllLaws
namespace Go.Proofs.YtpbloennjcjgoaaDoor
open Go.RowKit
set_option linter.unusedVariables false
set_option linter.unusedSimpArgs false
theorem parse_ok (s : ByteArray) (h : POk s) (hs : s.size ≤ maxLen) (W : World) (hM : Mark W) : Calls Tryd.prog 13 #[.string s] W fun e w' => e = .returned (.tuple #[parsedV s, .int .i64 0]) ∧ Below W.heap.size W w' :=
  parse_yes s W hM hs h.1 h.2.1 h.2.2
theorem parse_none (s : ByteArray) (h : ¬ POk s) (hs : s.size ≤ maxLen) (W : World) (hM : Mark W) : Calls Tryd.prog 13 #[.string s] W fun e w' => e = .returned (.tuple #[.agg #[.string ⟨#[]⟩, .string ⟨#[]⟩, .string ⟨#[]⟩, .int .i64 0, .int .i64 0], .int .i64 4]) ∧ Below W.heap.size W w' := by
  by_cases h52 : s.size < 52
  · exact parse_short s W hM hs h52
  · by_cases hmk : s.data.toList.take 4 = mark4
    · exact parse_no s W hM hs (by omega) hmk (fun g => h ⟨by omega, hmk, g⟩)
    · exact parse_mark s W hM hs (by omega) hmk
set_option maxHeartbeats 4000000 in
set_option maxRecDepth 100000 in
theorem walk_spoils_no (st da re : ByteArray) (h l : Int) (at_ : Int) (by_ : Int) (more : ByteArray) (w : World) (hM : Mark w) (z1 : st.size ≤ maxLen) (z2 : da.size ≤ maxLen) (z3 : re.size ≤ maxLen) (hf : ¬ Fit st da re) :
    Calls Tryd.prog 4 #[.agg #[.string st, .string da, .string re, .int .i64 h, .int .i64 l], .int .i64 at_, .int .u8 by_, .string more] w fun e w' => e = .returned (.bool true) ∧ Below w.heap.size w w' := by
  have hK := Bk.fresh w 23 #[.string st, .string da, .string re, .int .i64 h, .int .i64 l]
  have hB := (Below.refl w.heap.size w).alloc (Nat.le_refl _) (.cells #[.string st, .string da, .string re, .int .i64 h, .int .i64 l] 23)
  obtain ⟨w0, hw0⟩ : ∃ w0, w.alloc (.cells #[.string st, .string da, .string re, .int .i64 h, .int .i64 l] 23) = w0 := ⟨_, rfl⟩
  rw [hw0] at hK hB
  replace hM := Lib.hid hM
  have hP : ∀ W, Calls Tryd.prog 10 #[.agg #[.string st, .string da, .string re, .int .i64 h, .int .i64 l]] W fun e w' => e = .returned (.tuple #[.string ByteArray.empty, .int .i64 2]) ∧ Below W.heap.size W w' := fun W => print_no st da re h l W hf z1 z2 z3
  replace hP := Lib.hid hP
  have g1 : st.size ≤ 9223372036854775807 := z1
  have g2 : da.size ≤ 9223372036854775807 := z2
  have g3 : re.size ≤ 9223372036854775807 := z3
  have hc : (65536 : Int) < st.size ∨ (st.size : Int) ≤ 65536 ∧ (4096 : Int) < da.size ∨ (st.size : Int) ≤ 65536 ∧ (da.size : Int) ≤ 4096 ∧ (4096 : Int) < re.size := by
    unfold Fit at hf; omega
  clear hf
  rcases hc with i1 | ⟨i1, i2⟩ | ⟨i1, i2, i3⟩
  all_goals (
    go_enter Tryd.func4, Tryd.ntmps4
    go_wp2_with (fail)
    clear hw0
    refine (shown_any w0 (hM.out.kept hB hM.out.1)).mono ?_
    rintro e w1 ⟨rfl, hb⟩
    replace hK := hK.kept hb hK.lt
    replace hB := hB.trans (hb.mono hB.size)
    clear hb
    have c0 := hK.cell 0
    have c1 := hK.cell 1
    have c2 := hK.cell 2
    have c3 := hK.cell 3
    have c4 := hK.cell 4
    simp at c0 c1 c2 c3 c4
    go_wp2_with (fail)
    refine (hP.out w1).mono ?_
    rintro e w2 ⟨rfl, hb⟩
    replace hK := hK.kept hb hK.lt
    replace hB := hB.trans (hb.mono hB.size)
    clear hb c0 c1 c2 c3 c4
    have c0 := hK.cell 0
    have c1 := hK.cell 1
    have c2 := hK.cell 2
    simp at c0 c1 c2
    go_wp2_with (fail)
    go_returns
    exact ⟨rfl, hB⟩)
theorem neq_same (s1 d1 r1 : ByteArray) (h1 l1 : Int) (w : World) : (binOp .neq 23 (.agg #[.string s1, .string d1, .string r1, .int .i64 h1, .int .i64 l1]) (.agg #[.string s1, .string d1, .string r1, .int .i64 h1, .int .i64 l1])).run Tryd.prog w = .ok (.bool false) w := by
  simp [go_sem]
set_option maxHeartbeats 8000000 in
set_option maxRecDepth 100000 in
theorem walk_spoils_yes (st da re : ByteArray) (h l : Int) (at_ : Int) (by_ : UInt8) (more : ByteArray) (w : World) (hM : Mark w) (u1 : -9223372036854775808 ≤ h ∧ h ≤ 9223372036854775807) (u2 : -9223372036854775808 ≤ l ∧ l ≤ 9223372036854775807) (ua : -9223372036854775808 ≤ at_ ∧ at_ ≤ 9223372036854775807) (zm : more.size ≤ 140737488351232) (hf : Fit st da re) :
    Calls Tryd.prog 4 #[.agg #[.string st, .string da, .string re, .int .i64 h, .int .i64 l], .int .i64 at_, .int .u8 (by_.toNat : Int), .string more] w fun e w' => e = .returned (.bool true) ∧ Below w.heap.size w w' := by
  have hK := Bk.fresh w 23 #[.string st, .string da, .string re, .int .i64 h, .int .i64 l]
  have hB := (Below.refl w.heap.size w).alloc (Nat.le_refl _) (.cells #[.string st, .string da, .string re, .int .i64 h, .int .i64 l] 23)
  obtain ⟨w0, hw0⟩ : ∃ w0, w.alloc (.cells #[.string st, .string da, .string re, .int .i64 h, .int .i64 l] 23) = w0 := ⟨_, rfl⟩
  rw [hw0] at hK hB
  replace hM := Lib.hid hM
  have hlen := print_length st da re h l
  have hok := pok_print st da re h l hf
  have hpar := parsed_print st da re h l hf u1 u2
  have hPr : ∀ W, Mark W → Calls Tryd.prog 10 #[.agg #[.string st, .string da, .string re, .int .i64 h, .int .i64 l]] W fun e w' => e = .returned (.tuple #[.string ⟨(printL st da re h l).toArray⟩, .int .i64 0]) ∧ Below W.heap.size W w' := fun W hM => print_yes st da re h l W hf hM
  have hcut := not_cut st da re h l hf
  have hmore := not_more st da re h l hf
  have hoth := not_other st da re h l hf
  have hsz : (printL st da re h l).length ≤ 80000 := by
    obtain ⟨f1, f2, f3⟩ := hf; omega
  have hsz2 : 52 ≤ (printL st da re h l).length := by omega
  clear hlen hf
  generalize printL st da re h l = P at *
  obtain ⟨S, hS⟩ : ∃ S : ByteArray, (⟨P.toArray⟩ : ByteArray) = S := ⟨_, rfl⟩
  have hSs : S.size = P.length := by rw [← hS]; rfl
  have hSd : S.data.toList = P := by rw [← hS]
  rw [hS] at hok hpar hPr
  obtain ⟨k, hk⟩ : ∃ k, pickN at_ P.length = k := ⟨_, rfl⟩
  have hkl : k < P.length := by rw [← hk]; exact pickN_lt _ _ (by omega)
  have hpick : ∀ W, Calls Tryd.prog 15 #[.int .i64 at_, .int .i64 S.size] W fun e w' => e = .returned (.int .i64 k) ∧ w' = W := fun W => by
    have := pick_any at_ S.size W ua.1 ua.2 (by omega) (by omega)
    rw [show ((S.size : Nat) : Int).toNat = P.length by rw [hSs]; omega, hk] at this
    exact this
  have hpa : ∀ W, Mark W → Calls Tryd.prog 13 #[.string S] W fun e w' => e = .returned (.tuple #[.agg #[.string st, .string da, .string re, .int .i64 h, .int .i64 l], .int .i64 0]) ∧ Below W.heap.size W w' := fun W hM => by
    have := parse_ok S hok (by rw [hSs]; unfold maxLen; omega) W hM
    rw [hpar] at this
    exact this
  have hc : ∀ W, Mark W → Calls Tryd.prog 13 #[.string (S.extract 0 k)] W fun e w' => e = .returned (.tuple #[.agg #[.string ⟨#[]⟩, .string ⟨#[]⟩, .string ⟨#[]⟩, .int .i64 0, .int .i64 0], .int .i64 4]) ∧ Below W.heap.size W w' := fun W hM => by
    have e : S.extract 0 k = ⟨(P.take k).toArray⟩ := by
      rw [← hS]; ext1; rw [ByteArray.data_extract]; apply Array.toList_inj.1; simp
    rw [e]
    exact parse_none _ (hcut k hkl) (by show (P.take k).length ≤ _; rw [List.length_take]; unfold maxLen; omega) W hM
  obtain ⟨c, hcc⟩ : ∃ c, P[k] ^^^ by_ = c := ⟨_, rfl⟩
  have hx : bits BinOp.xor IntKind.u8 (P[k].toNat : Int) (by_.toNat : Int) = (c.toNat : Int) := by
    rw [u8_xor_nat _ _ P[k].toNat_lt by_.toNat_lt, ← hcc, UInt8.toNat_xor]
  have ho : by_ = 0 ∧ P.set k c = P ∨ ¬ by_ = 0 ∧ ¬ POk ⟨(P.set k c).toArray⟩ := by
    by_cases hb : by_ = 0
    · left
      refine ⟨hb, ?_⟩
      rw [← hcc, hb]; simp
    · right
      refine ⟨hb, hoth k hkl c fun e => hb ?_⟩
      rw [← hcc] at e
      have : P[k] ^^^ (P[k] ^^^ by_) = P[k] ^^^ P[k] := by rw [e]
      rw [← UInt8.xor_assoc, UInt8.xor_self, UInt8.zero_xor] at this
      exact this
  have hL : ∃ (us ud ur : ByteArray) (uh ul ec : Int), (by_ = 0 ∧ us = st ∧ ud = da ∧ ur = re ∧ uh = h ∧ ul = l ∧ ec = 0 ∨ ¬ by_ = 0 ∧ us = ⟨#[]⟩ ∧ ud = ⟨#[]⟩ ∧ ur = ⟨#[]⟩ ∧ uh = 0 ∧ ul = 0 ∧ ec = 4) ∧ ∀ W, Mark W → Calls Tryd.prog 13 #[.string ⟨(P.set k c).toArray⟩] W fun e w' => e = .returned (.tuple #[.agg #[.string us, .string ud, .string ur, .int .i64 uh, .int .i64 ul], .int .i64 ec]) ∧ Below W.heap.size W w' := by
    rcases ho with ⟨e, g⟩ | ⟨e, g⟩
    · refine ⟨_, _, _, _, _, _, .inl ⟨e, rfl, rfl, rfl, rfl, rfl, rfl⟩, ?_⟩
      rw [g, hS]
      exact hpa
    · refine ⟨_, _, _, _, _, _, .inr ⟨e, rfl, rfl, rfl, rfl, rfl, rfl⟩, fun W hM => ?_⟩
      exact parse_none _ g (by show (P.set k c).length ≤ _; rw [List.length_set]; unfold maxLen; omega) W hM
  have hMo : ∃ (vs vd vr : ByteArray) (vh vl ic : Int), (more.toList.isEmpty = true ∨ more.toList.isEmpty = false ∧ ic = 4) ∧ ∀ W, Mark W → Calls Tryd.prog 13 #[.string (S ++ more)] W fun e w' => e = .returned (.tuple #[.agg #[.string vs, .string vd, .string vr, .int .i64 vh, .int .i64 vl], .int .i64 ic]) ∧ Below W.heap.size W w' := by
    have em : S ++ more = ⟨(P ++ more.data.toList).toArray⟩ := by
      rw [← hS]; ext1; rw [ByteArray.data_append]; apply Array.toList_inj.1; simp
    by_cases hm : more.size = 0
    · have e0 : more = ByteArray.empty := by simpa using hm
      refine ⟨st, da, re, h, l, 0, .inl (by rw [e0]; simp), ?_⟩
      have : S ++ more = S := by
        rw [em]
        have h0 : more.data.toList = [] := List.eq_nil_of_length_eq_zero (by rw [data_size]; exact hm)
        rw [h0, List.append_nil, hS]
      rw [this]
      exact hpa
    · refine ⟨⟨#[]⟩, ⟨#[]⟩, ⟨#[]⟩, 0, 0, 4, (by cases more.toList.isEmpty <;> simp), fun W hM => ?_⟩
      rw [em]
      exact parse_none _ (hmore _ (by rw [data_size]; omega)) (by show (P ++ more.data.toList).length ≤ _; rw [List.length_append, data_size]; unfold maxLen; omega) W hM
  obtain ⟨us, ud, ur, uh, ul, ec, hec, hL⟩ := hL
  obtain ⟨vs, vd, vr, vh, vl, ic, hic, hMo⟩ := hMo
  have hneq := neq_same st da re h l
  have hb0 : by_ = 0 ∧ (((by_.toNat : Int) == 0) = true) ∨ ¬ by_ = 0 ∧ (((by_.toNat : Int) == 0) = false) := by
    by_cases hb : by_ = 0
    · exact .inl ⟨hb, by rw [hb]; rfl⟩
    · exact .inr ⟨hb, by simpa using fun e => hb (UInt8.toNat_inj.1 (by simpa using e))⟩
  replace hL := Lib.hid hL
  replace hMo := Lib.hid hMo
  replace hc := Lib.hid hc
  replace hpa := Lib.hid hpa
  replace hPr := Lib.hid hPr
  replace hpick := Lib.hid hpick
  have i1 : (52 : Int) ≤ S.size := by omega
  have i2 : ((S.size : Int) == 0) = false := beq_eq_false_iff_ne.2 (by omega)
  have i3 : (0 : Int) ≤ k := by omega
  have i4 : (k : Int) < S.size := by omega
  have i5 : k < S.size := by omega
  have i6 : k ≤ S.size := by omega
  have i7 : S.size ≤ 80000 := by omega
  replace hSs := Lib.hid hSs
  replace hSd := Lib.hid hSd
  replace hS := Lib.hid hS
  replace hk := Lib.hid hk
  replace hcc := Lib.hid hcc
  clear hok hpar hcut hmore hoth ho
  go_enter Tryd.func4, Tryd.ntmps4
  go_wp2_with (fail)
  clear hw0
  refine (shown_any w0 (hM.out.kept hB hM.out.1)).mono ?_
  rintro e w1 ⟨rfl, hb⟩
  replace hK := hK.kept hb hK.lt
  replace hB := hB.trans (hb.mono hB.size)
  clear hb
  have c0 := hK.cell 0
  have c1 := hK.cell 1
  have c2 := hK.cell 2
  have c3 := hK.cell 3
  have c4 := hK.cell 4
  simp at c0 c1 c2 c3 c4
  go_wp2_with (fail)
  refine (hPr.out w1 (hM.out.kept hB hM.out.1)).mono ?_
  rintro e w2 ⟨rfl, hb⟩
  replace hK := hK.kept hb hK.lt
  replace hB := hB.trans (hb.mono hB.size)
  clear hb c0 c1 c2 c3 c4
  go_wp2_with (fail)
  refine (hpa.out w2 (hM.out.kept hB hM.out.1)).mono ?_
  rintro e w3 ⟨rfl, hb⟩
  replace hK := hK.kept hb hK.lt
  replace hB := hB.trans (hb.mono hB.size)
  clear hb
  have hT := Bk.fresh w3 23 #[.string st, .string da, .string re, .int .i64 h, .int .i64 l]
  have hpl := hK.lt
  replace hK := hK.past (.cells #[.string st, .string da, .string re, .int .i64 h, .int .i64 l] 23)
  replace hB := hB.alloc hB.size (.cells #[.string st, .string da, .string re, .int .i64 h, .int .i64 l] 23)
  have c0 := hK.cell 0
  have c1 := hK.cell 1
  have c2 := hK.cell 2
  have c3 := hK.cell 3
  have c4 := hK.cell 4
  simp at c0 c1 c2 c3 c4
  go_wp2_with (fail)
  obtain ⟨w4, hw4⟩ : ∃ w4, w3.alloc (.cells #[.string st, .string da, .string re, .int .i64 h, .int .i64 l] 23) = w4 := ⟨_, rfl⟩
  rw [hw4] at hK hT hB c0 c1 c2 c3 c4 ⊢
  clear hw4 hT
  obtain ⟨p, hp⟩ : ∃ p, w.heap.size = p := ⟨_, rfl⟩
  rw [hp] at hK c0 c1 c2 c3 c4 hpl ⊢
  replace hp := Lib.hid hp
  refine (hpick.out w4).mono ?_
  rintro e w5 ⟨rfl, rfl⟩
  clear c0 c1 c2 c3 c4 hneq
  go_wp2_with (fail)
  refine (hc.out w5 (hM.out.kept hB hM.out.1)).mono ?_
  rintro e w6 ⟨rfl, hb⟩
  replace hK := hK.kept hb hK.lt
  replace hB := hB.trans (hb.mono hB.size)
  replace hK := hK.past (.cells #[.string ⟨#[]⟩, .string ⟨#[]⟩, .string ⟨#[]⟩, .int .i64 0, .int .i64 0] 23)
  replace hB := hB.alloc hB.size (.cells #[.string ⟨#[]⟩, .string ⟨#[]⟩, .string ⟨#[]⟩, .int .i64 0, .int .i64 0] 23)
  clear hb
  go_wp2_with (fail)
  obtain ⟨w7, hw7⟩ : ∃ w7, w6.alloc (.cells #[.string ⟨#[]⟩, .string ⟨#[]⟩, .string ⟨#[]⟩, .int .i64 0, .int .i64 0] 23) = w7 := ⟨_, rfl⟩
  rw [hw7] at hK hB ⊢
  clear hw7
  have hpq := hK.lt
  obtain ⟨W, cap, hconv, hX, hO, hcap⟩ := bytes_made w7 S
  replace hK := hK.kept hO hK.lt
  replace hB := hB.trans (hO.mono hB.size)
  have hbp := hO.size
  obtain ⟨q, hq⟩ : ∃ q, w7.heap.size = q := ⟨_, rfl⟩
  rw [hq] at hconv hX hpq
  rw [hSd.out] at hX
  clear hO hq hbp
  rw [hconv]
  clear hconv
  have hpk := (hX.2 k hkl).1
  have hfk := (hX.2 k hkl).2
  replace hX := Lib.hid (hX.set k c hkl)
  go_wp2_with (fail)
  have hq0 : p < q := hpq
  replace hK := hK.other (p := ⟨q, k, none⟩) (by show p ≠ q; omega) (.int .u8 (c.toNat : Int))
  replace hB := hB.setCell (p := ⟨q, k, none⟩) (by show w.heap.size ≤ q; have := hp.out; omega) (.int .u8 (c.toNat : Int))
  obtain ⟨w8, hw8⟩ : ∃ w8, W.setCell ⟨q, k, none⟩ (.int .u8 (c.toNat : Int)) = w8 := ⟨_, rfl⟩
  replace hX := hX.out
  rw [hw8] at hK hB hX ⊢
  clear hw8 hpk hfk hq0 hpq
  have hconv := string_made w8 q cap (P.set k c) hX
  rw [List.length_set, ← hSs.out] at hconv
  clear hX
  rw [hconv]
  clear hconv
  go_wp2_with (fail)
  refine (hL.out w8 (hM.out.kept hB hM.out.1)).mono ?_
  rintro e w9 ⟨rfl, hb⟩
  replace hK := hK.kept hb hK.lt
  replace hB := hB.trans (hb.mono hB.size)
  clear hb
  have hU := Bk.fresh w9 23 #[.string us, .string ud, .string ur, .int .i64 uh, .int .i64 ul]
  have hpl := hK.lt
  replace hK := hK.past (.cells #[.string us, .string ud, .string ur, .int .i64 uh, .int .i64 ul] 23)
  replace hB := hB.alloc hB.size (.cells #[.string us, .string ud, .string ur, .int .i64 uh, .int .i64 ul] 23)
  go_wp2_with (fail)
  obtain ⟨w10, hw10⟩ : ∃ w10, w9.alloc (.cells #[.string us, .string ud, .string ur, .int .i64 uh, .int .i64 ul] 23) = w10 := ⟨_, rfl⟩
  rw [hw10] at hK hB hU ⊢
  clear hw10
  obtain ⟨pu, hpu⟩ : ∃ pu, w9.heap.size = pu := ⟨_, rfl⟩
  rw [hpu] at hU hpl ⊢
  clear hpu
  refine (hMo.out w10 (hM.out.kept hB hM.out.1)).mono ?_
  rintro e w11 ⟨rfl, hb⟩
  replace hK := hK.kept hb hK.lt
  replace hU := hU.kept hb hU.lt
  replace hB := hB.trans (hb.mono hB.size)
  clear hb
  have hpl2 := hU.lt
  replace hK := hK.past (.cells #[.string vs, .string vd, .string vr, .int .i64 vh, .int .i64 vl] 23)
  replace hU := hU.past (.cells #[.string vs, .string vd, .string vr, .int .i64 vh, .int .i64 vl] 23)
  replace hB := hB.alloc hB.size (.cells #[.string vs, .string vd, .string vr, .int .i64 vh, .int .i64 vl] 23)
  have c0 := hK.cell 0
  have c1 := hK.cell 1
  have c2 := hK.cell 2
  have c3 := hK.cell 3
  have c4 := hK.cell 4
  have v0 := hU.cell 0
  have v1 := hU.cell 1
  have v2 := hU.cell 2
  have v3 := hU.cell 3
  have v4 := hU.cell 4
  simp at c0 c1 c2 c3 c4 v0 v1 v2 v3 v4
  clear hK hU
  rcases hec with ⟨e0, e1, e2, e3, e4, e5, e6⟩ | ⟨e0, e1, e2, e3, e4, e5, e6⟩
  · subst e6
    have heq := fun w => eql_a 23 (.inl rfl) us ud ur st da re uh ul h l w true (.inl ⟨rfl, e1, e2, e3, e4, e5⟩)
    unfold stateV at heq
    have hbb : ((by_.toNat : Int) == 0) = true := by
      rcases hb0 with ⟨_, g⟩ | ⟨g, _⟩
      · exact g
      · exact absurd e0 g
    clear e0 e1 e2 e3 e4 e5 hb0
    rcases hic with hm | ⟨hm, rfl⟩
    all_goals (
      go_wp2_with (fail)
      go_returns
      exact ⟨rfl, hB⟩)
  · subst e1 e2 e3 e4 e5 e6
    have heq := fun w => eql_a 23 (.inl rfl) ByteArray.empty ByteArray.empty ByteArray.empty ByteArray.empty ByteArray.empty ByteArray.empty 0 0 0 0 w true (.inl ⟨rfl, rfl, rfl, rfl, rfl, rfl⟩)
    unfold stateV at heq
    have hbb : ((by_.toNat : Int) == 0) = false := by
      rcases hb0 with ⟨g, _⟩ | ⟨_, g⟩
      · exact absurd g e0
      · exact g
    clear e0 hb0
    rcases hic with hm | ⟨hm, rfl⟩
    all_goals (
      go_wp2_with (fail)
      go_returns
      exact ⟨rfl, hB⟩)
theorem walk_spoils (st da re : ByteArray) (h l : Int) (at_ : Int) (by_ : Int) (more : ByteArray) (w : World) (hM : Mark w) (z1 : st.size ≤ maxLen) (z2 : da.size ≤ maxLen) (z3 : re.size ≤ maxLen) (u1 : -9223372036854775808 ≤ h ∧ h ≤ 9223372036854775807) (u2 : -9223372036854775808 ≤ l ∧ l ≤ 9223372036854775807) (ua : (Lit.int .i64 at_).wf = true) (ub : (Lit.int .u8 by_).wf = true) (zm : more.size ≤ maxLen) (zr : more.data.toList.length ≤ reachBytes) :
    Calls Tryd.prog 4 #[.agg #[.string st, .string da, .string re, .int .i64 h, .int .i64 l], .int .i64 at_, .int .u8 by_, .string more] w fun e w' => e = .returned (.bool true) ∧ Below w.heap.size w w' := by
  by_cases hf : Fit st da re
  · have hb : 0 ≤ by_ ∧ by_ < 256 := by
      simp [Lit.wf, IntKind.signed, IntKind.max, IntKind.min, IntKind.bits] at ub
      omega
    have ha : -9223372036854775808 ≤ at_ ∧ at_ ≤ 9223372036854775807 := by
      simp [Lit.wf, IntKind.signed, IntKind.max, IntKind.min, IntKind.bits] at ua
      omega
    have e : by_ = ((UInt8.ofNat by_.toNat).toNat : Int) := by
      simp; omega
    rw [e]
    exact walk_spoils_yes st da re h l at_ _ more w hM u1 u2 ha (by rw [data_size] at zr; unfold reachBytes at zr; omega) hf
  · exact walk_spoils_no st da re h l at_ by_ more w hM z1 z2 z3 hf
end Go.Proofs.YtpbloennjcjgoaaDoor
