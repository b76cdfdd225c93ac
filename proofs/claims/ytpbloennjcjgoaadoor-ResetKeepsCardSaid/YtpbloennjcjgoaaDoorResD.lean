import Derived.Test.YtpbloennjcjgoaaDoorResC
namespace Go.Proofs.YtpbloennjcjgoaaDoor
open Go.RowKit
set_option linter.unusedVariables false
set_option linter.unusedSimpArgs false
/-- while a state is printed -/
structure Pr (w W : World) (p0 : Nat) (vs : Array Value) (v : Value) (L : List UInt8) : Prop where
  own : W.ownsRow (p0 + 1) 5 1 v L.length (u8s L)
  below : Below p0 w W
  blk : Bk W p0 23 vs
  size : p0 + 1 ≤ W.heap.size
theorem Pr.next {w W W' : World} {p0 : Nat} {vs : Array Value} {v v' : Value} {L L' : List UInt8} (h : Pr w W p0 vs v L) (ho : W'.ownsRow (p0 + 1) 5 1 v' L'.length (u8s L')) (hb : Below (p0 + 1) W W') : Pr w W' p0 vs v' L' :=
  ⟨ho, h.below.trans (hb.mono (by omega)), h.blk.kept hb (by omega), Nat.le_trans h.size hb.size⟩
theorem str_append3 (a b c : ByteArray) : (a ++ b ++ c).size = a.size + b.size + c.size := by simp [ByteArray.size_append]
theorem idx_five (a b c d e : Int) (w : World) : (Instr.index 81 (.agg #[.int .i64 a, .int .i64 b, .int .i64 c, .int .i64 d, .int .i64 e]) (.int .i64 0)).run Tryd.prog w = .ok (.int .i64 a) w ∧
    (Instr.index 81 (.agg #[.int .i64 a, .int .i64 b, .int .i64 c, .int .i64 d, .int .i64 e]) (.int .i64 1)).run Tryd.prog w = .ok (.int .i64 b) w ∧
    (Instr.index 81 (.agg #[.int .i64 a, .int .i64 b, .int .i64 c, .int .i64 d, .int .i64 e]) (.int .i64 2)).run Tryd.prog w = .ok (.int .i64 c) w ∧
    (Instr.index 81 (.agg #[.int .i64 a, .int .i64 b, .int .i64 c, .int .i64 d, .int .i64 e]) (.int .i64 3)).run Tryd.prog w = .ok (.int .i64 d) w ∧
    (Instr.index 81 (.agg #[.int .i64 a, .int .i64 b, .int .i64 c, .int .i64 d, .int .i64 e]) (.int .i64 4)).run Tryd.prog w = .ok (.int .i64 e) w :=
  ⟨by kernel_rfl, by kernel_rfl, by kernel_rfl, by kernel_rfl, by kernel_rfl⟩
set_option maxHeartbeats 2000000 in
set_option maxRecDepth 100000 in
theorem print_yes (st da re : ByteArray) (h l : Int) (w : World) (hf : Fit16 st da re) (hM : Mark w) :
    Calls Tryd.prog 10 #[stateV st da re h l] w fun e w' => e = .returned (.tuple #[.string ⟨(printL st da re h l).toArray⟩, .int .i64 0]) ∧ Below w.heap.size w w' := by
  obtain ⟨g1, g2, g3⟩ := hf
  obtain ⟨ti, hj, hy0, hy1, hy2⟩ := info_parts info_u8
  unfold stateV
  go_enter Tryd.func10, Tryd.ntmps10
  go_wp2_with (fail)
  refine (fits_yes st.size da.size re.size _ g1 g2 g3).mono ?_
  rintro e w1 ⟨rfl, rfl⟩
  have hK := Bk.fresh w 23 #[.string st, .string da, .string re, .int .i64 h, .int .i64 l]
  have hB := (Below.refl w.heap.size w).alloc (Nat.le_refl _) (.cells #[.string st, .string da, .string re, .int .i64 h, .int .i64 l] 23)
  have hsz : (w.alloc (.cells #[.string st, .string da, .string re, .int .i64 h, .int .i64 l] 23)).heap.size = w.heap.size + 1 := by simp
  have hM1 := hM.kept hB hM.1
  obtain ⟨w1, hw1⟩ : ∃ w1, w.alloc (.cells #[.string st, .string da, .string re, .int .i64 h, .int .i64 l] 23) = w1 := ⟨_, rfl⟩
  rw [hw1] at hK hB hsz hM1 ⊢
  clear hw1
  obtain ⟨p0, hp0⟩ : ∃ p0, w.heap.size = p0 := ⟨_, rfl⟩
  rw [hp0] at hK hB hsz ⊢
  obtain ⟨m0, m1, m2, m3, m4⟩ := hM1
  have hsz := Lib.hid hsz
  have hp0 := Lib.hid hp0
  have k0 := hK.cell 0
  have k1 := hK.cell 1
  have k2 := hK.cell 2
  have k3 := hK.cell 3
  have k4 := hK.cell 4
  go_wp2_with (at_builtin; refine wpList_append_own _ rfl (.const (.slice none 0 0)) (.tmp 21) 38 rfl (p0 + 1) 5 ti (.int .u8 0) 1 1 Tryd.underlying38 hj hy0 hy1 hy2 rfl (by decide) _ 0 [] rfl (World.ownsRow_nil _ _ _ _) ⟨0, 0, none⟩ 4 4 (u8s mark4) rfl rfl ?c1 ?c2 (by decide) (by decide) (by have := hsz.out; omega) ?_)
  case c1 =>
    intro j u hu
    match j, hu with
    | 0, hu => simp [u8s, mark4] at hu; subst hu; simpa [Addr.add] using m1
    | 1, hu => simp [u8s, mark4] at hu; subst hu; simpa [Addr.add] using m2
    | 2, hu => simp [u8s, mark4] at hu; subst hu; simpa [Addr.add] using m3
    | 3, hu => simp [u8s, mark4] at hu; subst hu; simpa [Addr.add] using m4
  case c2 => intro u hu; simp [u8s, mark4] at hu; rcases hu with rfl | rfl | rfl | rfl <;> rfl
  intro v w2 ho hg _
  have hP : Pr w w2 p0 #[.string st, .string da, .string re, .int .i64 h, .int .i64 l] v mark4 :=
    ⟨by show w2.ownsRow (p0 + 1) 5 1 v 4 (u8s mark4); simpa using ho, hB.grown hg (by have := hsz.out; omega) (fun k e => by simp [Value.ownBlock] at e), hK.grown hg (by simp [Value.ownBlock]), by have := hg.size; have := hsz.out; omega⟩
  clear ho hg k0 k1 k2 k3 k4 m0 m1 m2 m3 m4 hK hB hM
  have hwh := cN_is h
  have hwl := cN_is l
  have k0 := hP.blk.cell 0
  have k1 := hP.blk.cell 1
  have k2 := hP.blk.cell 2
  have k3 := hP.blk.cell 3
  have k4 := hP.blk.cell 4
  go_wp2_with (fail)
  have x0 := fun w => (idx_five st.size da.size re.size h l w).1
  have x1 := fun w => (idx_five st.size da.size re.size h l w).2.1
  have x2 := fun w => (idx_five st.size da.size re.size h l w).2.2.1
  have x3 := fun w => (idx_five st.size da.size re.size h l w).2.2.2.1
  have x4 := fun w => (idx_five st.size da.size re.size h l w).2.2.2.2
  refine wp_loop_rounds 6 ?_
  clear k0 k1 k2 k3 k4
  rw [rounds_succ]
  go_wp2_with (fail)
  refine (laid_any v (mark4) st.size (p0 + 1) _ hP.own hP.size (by simp [mark4, le8_length]) (by omega)).mono ?_
  rintro e w3 ⟨v3, rfl, ho, hb⟩
  have hP3 := hP.next ho hb
  clear ho hb hP
  go_wp2_with (fail)
  rw [rounds_succ]
  go_wp2_with (fail)
  refine (laid_any v3 (mark4 ++ le8 st.size) da.size (p0 + 1) _ hP3.own hP3.size (by simp [mark4, le8_length]) (by omega)).mono ?_
  rintro e w4 ⟨v4, rfl, ho, hb⟩
  have hP4 := hP3.next ho hb
  clear ho hb hP3
  go_wp2_with (fail)
  rw [rounds_succ]
  go_wp2_with (fail)
  refine (laid_any v4 (mark4 ++ le8 st.size ++ le8 da.size) re.size (p0 + 1) _ hP4.own hP4.size (by simp [mark4, le8_length]) (by omega)).mono ?_
  rintro e w5 ⟨v5, rfl, ho, hb⟩
  have hP5 := hP4.next ho hb
  clear ho hb hP4
  go_wp2_with (fail)
  rw [rounds_succ]
  go_wp2_with (fail)
  refine (laid_any v5 (mark4 ++ le8 st.size ++ le8 da.size ++ le8 re.size) (cN h) (p0 + 1) _ hP5.own hP5.size (by simp [mark4, le8_length]) (cN_lt _)).mono ?_
  rintro e w6 ⟨v6, rfl, ho, hb⟩
  have hP6 := hP5.next ho hb
  clear ho hb hP5
  go_wp2_with (fail)
  rw [rounds_succ]
  go_wp2_with (fail)
  refine (laid_any v6 (mark4 ++ le8 st.size ++ le8 da.size ++ le8 re.size ++ le8 (cN h)) (cN l) (p0 + 1) _ hP6.own hP6.size (by simp [mark4, le8_length]) (cN_lt _)).mono ?_
  rintro e w7 ⟨v7, rfl, ho, hb⟩
  have hP7 := hP6.next ho hb
  clear ho hb hP6
  have k0 := hP7.blk.cell 0
  have k1 := hP7.blk.cell 1
  have k2 := hP7.blk.cell 2
  go_wp2_with (fail)
  rw [rounds_succ]
  have hcat := Lib.hid (str_append3 st da re)
  have hs7 := hP7.size
  have hHl : (mark4 ++ le8 st.size ++ le8 da.size ++ le8 re.size ++ le8 (cN h) ++ le8 (cN l)).length = 44 := rfl
  obtain ⟨H, hH⟩ : ∃ H, mark4 ++ le8 st.size ++ le8 da.size ++ le8 re.size ++ le8 (cN h) ++ le8 (cN l) = H := ⟨_, rfl⟩
  rw [hH] at hP7 hHl
  obtain ⟨cat, hcc⟩ : ∃ cat, st ++ da ++ re = cat := ⟨_, rfl⟩
  rw [hcc] at hcat
  have hHl := Lib.hid hHl
  have hH := Lib.hid hH
  have hP7 := Lib.hid hP7
  go_wp2_with (at_builtin; refine Lib.wpList_append_own_string _ rfl (.tmp 45) (.tmp 53) 38 9 rfl (p0 + 1) 5 ti Tryd.underlying38 Tryd.underlying9 hj hy0 hy1 hy2 _ _ _ rfl hP7.out.own cat rfl (by rw [hcat.out, hHl.out]; unfold maxLen; omega) (by rw [hcat.out, hHl.out]; omega) hs7 ?_)
  intro v8 w8 ho8 hg8 _
  obtain ⟨Body, hBody⟩ : ∃ Body, H ++ cat.data.toList = Body := ⟨_, rfl⟩
  have hBl : Body.length = H.length + cat.size := by rw [← hBody, List.length_append, data_size]
  have ho8 : w8.ownsRow (p0 + 1) 5 1 v8 Body.length (u8s Body) := by
    rw [hBl, hHl.out, ← hBody, ← u8s_append]; exact ho8
  have hb8 := r16_below_grown hP7.out.below hP7.out.own (by omega) hs7 hg8
  have hs8 := Nat.le_trans hs7 hg8.size
  have hBl2 : Body.length ≤ 1000000000 := by rw [hBl, hcat.out, hHl.out]; omega
  have hBl3 : 0 < Body.length := by rw [hBl, hHl.out]; omega
  clear hg8 k0 k1 k2 hP7 hBl
  obtain ⟨A, c8, rfl⟩ := own_form ho8
  obtain ⟨g8, rfl, _, _, hnc, hc8⟩ := own_at ho8 hBl3
  have hBody := Lib.hid hBody
  have ho8 := Lib.hid ho8
  go_wp2_with (fail)
  refine (sum_any g8 0 c8 Body _ (fun j hj => by rw [Nat.zero_add]; exact hc8 j _ (u8s_at Body j hj)) (by omega)).mono ?_
  rintro e w9 ⟨rfl, rfl⟩
  go_wp2_with (fail)
  refine (laid_any _ Body (sumL Body) (p0 + 1) _ ho8.out hs8 (by omega) (sumL_lt _)).mono ?_
  rintro e w10 ⟨v10, rfl, ho10, hb10⟩
  obtain ⟨A, c10, rfl⟩ := own_form ho10
  have hconv := own_string w10 _ c10 A _ ho10
  have hfin : Hid (printL st da re h l = Body ++ le8 (sumL Body)) := by
    show printL st da re h l = _
    have : bodyL st da re h l = Body := by
      unfold bodyL heads
      rw [hH.out, hcc]; exact hBody.out
    unfold printL
    rw [this]
  have ho10 := Lib.hid ho10
  obtain ⟨R, hR⟩ : ∃ R, Body ++ le8 (sumL Body) = R := ⟨_, rfl⟩
  rw [hR] at hfin hconv ⊢
  go_wp2
  go_returns
  exact ⟨by rw [hfin.out]; rfl, by rw [hp0.out]; exact hb8.trans (hb10.mono (by omega))⟩
end Go.Proofs.YtpbloennjcjgoaaDoor
