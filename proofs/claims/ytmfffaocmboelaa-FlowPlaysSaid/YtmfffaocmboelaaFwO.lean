import Derived.Test.YtmfffaocmboelaaFwL
namespace Go.Proofs.Ytmfffaocmboelaa
open Go.RowKit
set_option linter.unusedVariables false
set_option linter.unusedSimpArgs false
/-! Word: the words of count, on something that is open -/
section
variable {w w' : World} {F : Nat} {own : Nat → Prop} {v : Value} {X : List (Th × Value)}
set_option maxHeartbeats 4000000 in
set_option maxRecDepth 100000 in
theorem word_c2 (s : ByteArray) (here : Int) (h : Fl w F own v X) (hs : s.size ≤ maxLen) (r : Nat) (hr : row s = r) (hr2 : r < 17) (hr8 : 8 ≤ r) (g c n m : Nat) (hv : v = .slice (some ⟨g, 0, none⟩) n c) (hn : X.length = n) (hm : n = m + 1) (x : Th × Value) (hx : X[m]? = some x) (hb0 : wantK r = 0) (hk0 : (eff (X.map Prod.fst) r here).how = 2) :
    Calls Try.prog 9 #[.pointer (some ⟨F, 0, none⟩), .string s, .int .i64 here] w fun e w' => Done w w' F own (step (X.map Prod.fst) r here) e := by
  have hwk : wantK r = 0 ∨ (topT (X.map Prod.fst)).k = wantK r := by rw [topT_at hn hm hx]; first | exact .inl hb0 | exact .inr hb2
  have hst : step (X.map Prod.fst) r here = ⟨0, (eff (X.map Prod.fst) r here).acts, (eff (X.map Prod.fst) r here).L⟩ := by
    unfold step
    rw [if_neg (by omega), if_neg (fun h => hwk.elim h.1 h.2), hk0]; first | rfl | exact if_neg (by rw [List.length_map, hn]; exact hlt) | exact if_pos (by rw [List.length_map, hn]; exact hlt)
  have hk : (((eff (X.map Prod.fst) r here).how : Nat) : Int) = 2 := by rw [hk0]; rfl
  have hEL : (eff (X.map Prod.fst) r here).how = 0 ∨ (eff (X.map Prod.fst) r here).how = 1 ∨ (eff (X.map Prod.fst) r here).how = 3 → (eff (X.map Prod.fst) r here).L = X.map Prod.fst := eff_same _ _ _
  rw [hk0] at hEL
  have hw0 : kn (wantK r) = ⟨#[]⟩ := by rw [hb0]; rfl
  have hne := nm_ne r hr2
  have hkn := known_any s w hs
  rw [hr] at hkn
  have hwt := wants_any r hr2
  obtain ⟨nmr, hnm⟩ : ∃ n, nm r = n := ⟨_, rfl⟩
  rw [hnm] at hne hkn hwt
  have hF := h.bk
  have hl := h.len
  rw [hn] at hl
  subst hv
  replace hF := Lib.hid hF
  replace h := Lib.hid h
  replace hkn := Lib.hid hkn
  replace hnm := Lib.hid hnm
  replace hr := Lib.hid hr
  replace hr2 := Lib.hid hr2
  replace hn := Lib.hid hn
  replace hl := Lib.hid hl
  rw [hw0] at hwt
  replace hwt := Lib.hid hwt
  clear hb0 hw0
  replace hEL := Lib.hid hEL
  replace hx := Lib.hid hx
  replace hst := Lib.hid hst
  replace hwk := Lib.hid hwk
  replace hk := Lib.hid hk
  replace hk0 := Lib.hid hk0
  replace hr8 := Lib.hid hr8
  have e1 : IntKind.i64.wrap ((n : Int) - 1) = (m : Int) := by have := hl.out; rw [IntKind.wrap_i64]; omega
  have i0 : (0 : Int) < n := by omega
  have j0 : (0 : Int) ≤ m := by omega
  have j1 : (m : Int) < n := by omega
  replace hm := Lib.hid hm
  go_enter Try.func9, Try.ntmps9
  go_wp2_with (fail)
  refine wp_scope_once2 rfl rfl ?_
  intro R hl0 hl1
  replace hl0 := Lib.hid hl0
  replace hl1 := Lib.hid hl1
  go_wp2_with (fail)
  refine hkn.out.mono ?_
  rintro e w1 ⟨rfl, hb1⟩
  replace hF := Lib.hid (hF.out.kept hb1 hF.out.lt)
  replace hb1 := Lib.hid hb1
  have f0 : ((w1.alloc (.cells #[.string ⟨#[]⟩, .int .i64 0, .int .i64 0, .slice none 0 0] 62)).alloc (.cells #[.slice none 0 0, .int .i64 here, .int .i64 here, .pointer (some ⟨w1.heap.size, 0, none⟩), .string ⟨#[]⟩, .int .i64 0, .int .i64 0, .slice none 0 0] 64)).cell? ⟨F, 0, none⟩ = some (.slice (some ⟨g, 0, none⟩) n c) := ((hF.out.past _).past _).cell 0
  have hwb := Bk.fresh (w1.alloc (.cells #[.string ⟨#[]⟩, .int .i64 0, .int .i64 0, .slice none 0 0] 62)) 64 #[.slice none 0 0, .int .i64 here, .int .i64 here, .pointer (some ⟨w1.heap.size, 0, none⟩), .string ⟨#[]⟩, .int .i64 0, .int .i64 0, .slice none 0 0]
  have hz : (w1.alloc (.cells #[.string ⟨#[]⟩, .int .i64 0, .int .i64 0, .slice none 0 0] 62)).heap.size = w1.heap.size + 1 := by simp
  rw [hz] at hwb
  have hb1' : Below w.heap.size w (((w1.alloc (.cells #[.string ⟨#[]⟩, .int .i64 0, .int .i64 0, .slice none 0 0] 62)).alloc (.cells #[.slice none 0 0, .int .i64 here, .int .i64 here, .pointer (some ⟨w1.heap.size, 0, none⟩), .string ⟨#[]⟩, .int .i64 0, .int .i64 0, .slice none 0 0] 64))) := (hb1.out.alloc hb1.out.size _).alloc (by rw [hz]; have := hb1.out.size; omega) _
  have hFW := Lib.hid ((hF.out.past (.cells #[.string ⟨#[]⟩, .int .i64 0, .int .i64 0, .slice none 0 0] 62)).past (.cells #[.slice none 0 0, .int .i64 here, .int .i64 here, .pointer (some ⟨w1.heap.size, 0, none⟩), .string ⟨#[]⟩, .int .i64 0, .int .i64 0, .slice none 0 0] 64))
  have hFb : F < w1.heap.size + 1 := by have := hF.out.lt; omega
  have hbw : w.heap.size ≤ w1.heap.size + 1 := by have := hb1.out.size; omega
  have d3 := hwb.free 3
  have c3 : _ = some (Value.pointer (some ⟨w1.heap.size, 0, none⟩)) := hwb.cell 3
  replace hwb := Lib.hid hwb
  replace hb1' := Lib.hid hb1'
  replace hbw := Lib.hid hbw
  clear hz
  go_wp2_with (fail)
  generalize (w1.alloc (.cells #[.string ⟨#[]⟩, .int .i64 0, .int .i64 0, .slice none 0 0] 62)).alloc (.cells #[.slice none 0 0, .int .i64 here, .int .i64 here, .pointer (some ⟨w1.heap.size, 0, none⟩), .string ⟨#[]⟩, .int .i64 0, .int .i64 0, .slice none 0 0] 64) = W at *
  generalize w1.heap.size + 1 = b at *
  go_still_tail 14, (by kernel_rfl)
  change wpList _ _ _ _ _ W.drew
  have hRd := rd_of (T := ⟨g, m * 4, none⟩) (here := here) h.out (by rw [hn.out]) (W := (W.setCell ⟨b, 3, none⟩ (.pointer (some ⟨g, m * 4, none⟩))).drew) (hb1'.out.setCell hbw.out _).drew hbw.out (hwb.out.put 3 _) (fun _ => ⟨g, rfl, by rw [hn.out]; congr 2; have := hm.out; omega⟩)
  have hFq := (hFW.out.other (p := ⟨b, 3, none⟩) (show F ≠ b by omega) (.pointer (some ⟨g, m * 4, none⟩))).draw
  have hBq := (hb1'.out.setCell (p := ⟨b, 3, none⟩) hbw.out (.pointer (some ⟨g, m * 4, none⟩))).drew
  go_wp2_with (fail)
  obtain ⟨wq, hwq⟩ : ∃ wq, (W.setCell ⟨b, 3, none⟩ (.pointer (some ⟨g, m * 4, none⟩))).drew = wq := ⟨_, rfl⟩
  rw [hwq] at hRd hBq hFq
  try rw [hwq]
  have hTp : Tp wq g (m * 4) (kn x.1.k) x.1.at_ x.1.tgt x.2 := Rws.tp (c := c) (by have := hRd.rw; exact this) m x hx.out
  have t0 := hTp.c0
  have a3 := hRd.wk.bk.cell 3
  simp at a3
  replace hRd := Lib.hid hRd
  replace hFq := Lib.hid hFq
  replace hBq := Lib.hid hBq
  replace hTp := Lib.hid hTp
  replace hFb := Lib.hid hFb
  clear hwq f0 d3 c3 hwb hb1' hFW hF hb1 e1 j0 j1
  refine (hwt.out _).mono ?_
  rintro e w2 ⟨rfl, hw2⟩
  replace hw2 := hw2.symm
  subst hw2
  have hbr := ct_eff r hr8.out hr2.out hRd.out hwk.out
  have hb0 := brn_any r hr8.out hr2.out wq b
  rw [hk.out, hnm.out, hn.out] at hbr
  rw [hnm.out] at hb0
  have f0 := hFq.out.cell 0
  simp at f0
  replace hb0 := Lib.hid hb0
  replace hbr := Lib.hid hbr
  go_wp2_with (fail)
  refine hb0.out.mono ?_
  rintro e w2 ⟨rfl, hw2⟩
  replace hw2 := hw2.symm
  subst hw2
  go_wp2_with (fail)
  refine hbr.out.mono ?_
  clear f0
  rintro e w2 ⟨rfl, v2, m0, m1, m2, m3, X2, hW2, hR2, hL2, hN2, hS2, hO2⟩
  have hF2 : Bk w2 F _ _ := hO2.bk hFq.out (fun hk => hk.elim h.out.out (fun hk => by have := hFb.out; omega))
  have f0 := hF2.cell 0
  simp at f0
  have f1 := hF2.free 0
  have k0 := hW2.bk.cell 0
  simp at k0
  have hX2 : X2.length = n := by have := congrArg List.length hL2; rw [List.length_map, eff_len _ _ _ hwk.out, List.length_map, hn.out] at this; exact this
  rw [hX2] at hR2
  replace hW2 := Lib.hid hW2
  replace hR2 := Lib.hid hR2
  replace hL2 := Lib.hid hL2
  replace hN2 := Lib.hid hN2
  replace hS2 := Lib.hid hS2
  replace hO2 := Lib.hid hO2
  replace hF2 := Lib.hid hF2
  replace hX2 := Lib.hid hX2
  clear hbr
  try replace i16 := i16.out
  go_wp2_with (fail)
  go_step3
  refine ⟨_, hl0.out, ?_⟩
  go_wp2_with (fail)
  rw [Exit.noGoto_ret]
  go_returns
  rw [hst.out]
  exact done_of (f := 0) hbw.out hBq.out (hO2.out.grow (fun k _ hk => .inr hk)) hW2.out.row hF2.out hR2.out hL2.out
set_option maxHeartbeats 4000000 in
set_option maxRecDepth 100000 in
theorem word_c4 (s : ByteArray) (here : Int) (h : Fl w F own v X) (hs : s.size ≤ maxLen) (r : Nat) (hr : row s = r) (hr2 : r < 17) (hr8 : 8 ≤ r) (g c n m : Nat) (hv : v = .slice (some ⟨g, 0, none⟩) n c) (hn : X.length = n) (hm : n = m + 1) (x : Th × Value) (hx : X[m]? = some x) (hb0 : wantK r ≠ 0) (hb2 : x.1.k = wantK r) (hk0 : (eff (X.map Prod.fst) r here).how = 4) :
    Calls Try.prog 9 #[.pointer (some ⟨F, 0, none⟩), .string s, .int .i64 here] w fun e w' => Done w w' F own (step (X.map Prod.fst) r here) e := by
  have hwk : wantK r = 0 ∨ (topT (X.map Prod.fst)).k = wantK r := by rw [topT_at hn hm hx]; first | exact .inl hb0 | exact .inr hb2
  have hst : step (X.map Prod.fst) r here = ⟨0, (eff (X.map Prod.fst) r here).acts, (eff (X.map Prod.fst) r here).L.dropLast⟩ := by
    unfold step
    rw [if_neg (by omega), if_neg (fun h => hwk.elim h.1 h.2), hk0]; first | rfl | exact if_neg (by rw [List.length_map, hn]; exact hlt) | exact if_pos (by rw [List.length_map, hn]; exact hlt)
  have hk : (((eff (X.map Prod.fst) r here).how : Nat) : Int) = 4 := by rw [hk0]; rfl
  have hEL : (eff (X.map Prod.fst) r here).how = 0 ∨ (eff (X.map Prod.fst) r here).how = 1 ∨ (eff (X.map Prod.fst) r here).how = 3 → (eff (X.map Prod.fst) r here).L = X.map Prod.fst := eff_same _ _ _
  rw [hk0] at hEL
  have hw1 := kn_ne (wantK r) hb0 (wantK_le r)
  have hne := nm_ne r hr2
  have hkn := known_any s w hs
  rw [hr] at hkn
  have hwt := wants_any r hr2
  obtain ⟨nmr, hnm⟩ : ∃ n, nm r = n := ⟨_, rfl⟩
  rw [hnm] at hne hkn hwt
  have hF := h.bk
  have hl := h.len
  rw [hn] at hl
  subst hv
  replace hF := Lib.hid hF
  replace h := Lib.hid h
  replace hkn := Lib.hid hkn
  replace hnm := Lib.hid hnm
  replace hr := Lib.hid hr
  replace hr2 := Lib.hid hr2
  replace hn := Lib.hid hn
  replace hl := Lib.hid hl
  obtain ⟨wd, hwd⟩ : ∃ wd, kn (wantK r) = wd := ⟨_, rfl⟩
  have hw2 : kn x.1.k = wd := by rw [hb2, hwd]
  rw [hwd] at hw1 hwt
  replace hwt := Lib.hid hwt
  replace hw2 := Lib.hid hw2
  clear hb0 hb2
  replace hEL := Lib.hid hEL
  replace hx := Lib.hid hx
  replace hst := Lib.hid hst
  replace hwk := Lib.hid hwk
  replace hk := Lib.hid hk
  replace hk0 := Lib.hid hk0
  replace hr8 := Lib.hid hr8
  have e1 : IntKind.i64.wrap ((n : Int) - 1) = (m : Int) := by have := hl.out; rw [IntKind.wrap_i64]; omega
  have i0 : (0 : Int) < n := by omega
  have j0 : (0 : Int) ≤ m := by omega
  have j1 : (m : Int) < n := by omega
  replace hm := Lib.hid hm
  go_enter Try.func9, Try.ntmps9
  go_wp2_with (fail)
  refine wp_scope_once2 rfl rfl ?_
  intro R hl0 hl1
  replace hl0 := Lib.hid hl0
  replace hl1 := Lib.hid hl1
  go_wp2_with (fail)
  refine hkn.out.mono ?_
  rintro e w1 ⟨rfl, hb1⟩
  replace hF := Lib.hid (hF.out.kept hb1 hF.out.lt)
  replace hb1 := Lib.hid hb1
  have f0 : ((w1.alloc (.cells #[.string ⟨#[]⟩, .int .i64 0, .int .i64 0, .slice none 0 0] 62)).alloc (.cells #[.slice none 0 0, .int .i64 here, .int .i64 here, .pointer (some ⟨w1.heap.size, 0, none⟩), .string ⟨#[]⟩, .int .i64 0, .int .i64 0, .slice none 0 0] 64)).cell? ⟨F, 0, none⟩ = some (.slice (some ⟨g, 0, none⟩) n c) := ((hF.out.past _).past _).cell 0
  have hwb := Bk.fresh (w1.alloc (.cells #[.string ⟨#[]⟩, .int .i64 0, .int .i64 0, .slice none 0 0] 62)) 64 #[.slice none 0 0, .int .i64 here, .int .i64 here, .pointer (some ⟨w1.heap.size, 0, none⟩), .string ⟨#[]⟩, .int .i64 0, .int .i64 0, .slice none 0 0]
  have hz : (w1.alloc (.cells #[.string ⟨#[]⟩, .int .i64 0, .int .i64 0, .slice none 0 0] 62)).heap.size = w1.heap.size + 1 := by simp
  rw [hz] at hwb
  have hb1' : Below w.heap.size w (((w1.alloc (.cells #[.string ⟨#[]⟩, .int .i64 0, .int .i64 0, .slice none 0 0] 62)).alloc (.cells #[.slice none 0 0, .int .i64 here, .int .i64 here, .pointer (some ⟨w1.heap.size, 0, none⟩), .string ⟨#[]⟩, .int .i64 0, .int .i64 0, .slice none 0 0] 64))) := (hb1.out.alloc hb1.out.size _).alloc (by rw [hz]; have := hb1.out.size; omega) _
  have hFW := Lib.hid ((hF.out.past (.cells #[.string ⟨#[]⟩, .int .i64 0, .int .i64 0, .slice none 0 0] 62)).past (.cells #[.slice none 0 0, .int .i64 here, .int .i64 here, .pointer (some ⟨w1.heap.size, 0, none⟩), .string ⟨#[]⟩, .int .i64 0, .int .i64 0, .slice none 0 0] 64))
  have hFb : F < w1.heap.size + 1 := by have := hF.out.lt; omega
  have hbw : w.heap.size ≤ w1.heap.size + 1 := by have := hb1.out.size; omega
  have d3 := hwb.free 3
  have c3 : _ = some (Value.pointer (some ⟨w1.heap.size, 0, none⟩)) := hwb.cell 3
  replace hwb := Lib.hid hwb
  replace hb1' := Lib.hid hb1'
  replace hbw := Lib.hid hbw
  clear hz
  go_wp2_with (fail)
  generalize (w1.alloc (.cells #[.string ⟨#[]⟩, .int .i64 0, .int .i64 0, .slice none 0 0] 62)).alloc (.cells #[.slice none 0 0, .int .i64 here, .int .i64 here, .pointer (some ⟨w1.heap.size, 0, none⟩), .string ⟨#[]⟩, .int .i64 0, .int .i64 0, .slice none 0 0] 64) = W at *
  generalize w1.heap.size + 1 = b at *
  go_still_tail 14, (by kernel_rfl)
  change wpList _ _ _ _ _ W.drew
  have hRd := rd_of (T := ⟨g, m * 4, none⟩) (here := here) h.out (by rw [hn.out]) (W := (W.setCell ⟨b, 3, none⟩ (.pointer (some ⟨g, m * 4, none⟩))).drew) (hb1'.out.setCell hbw.out _).drew hbw.out (hwb.out.put 3 _) (fun _ => ⟨g, rfl, by rw [hn.out]; congr 2; have := hm.out; omega⟩)
  have hFq := (hFW.out.other (p := ⟨b, 3, none⟩) (show F ≠ b by omega) (.pointer (some ⟨g, m * 4, none⟩))).draw
  have hBq := (hb1'.out.setCell (p := ⟨b, 3, none⟩) hbw.out (.pointer (some ⟨g, m * 4, none⟩))).drew
  go_wp2_with (fail)
  obtain ⟨wq, hwq⟩ : ∃ wq, (W.setCell ⟨b, 3, none⟩ (.pointer (some ⟨g, m * 4, none⟩))).drew = wq := ⟨_, rfl⟩
  rw [hwq] at hRd hBq hFq
  try rw [hwq]
  have hTp : Tp wq g (m * 4) (kn x.1.k) x.1.at_ x.1.tgt x.2 := Rws.tp (c := c) (by have := hRd.rw; exact this) m x hx.out
  have t0 := hTp.c0
  have a3 := hRd.wk.bk.cell 3
  simp at a3
  replace hRd := Lib.hid hRd
  replace hFq := Lib.hid hFq
  replace hBq := Lib.hid hBq
  replace hTp := Lib.hid hTp
  replace hFb := Lib.hid hFb
  clear hwq f0 d3 c3 hwb hb1' hFW hF hb1 e1 j0 j1
  refine (hwt.out _).mono ?_
  rintro e w2 ⟨rfl, hw2⟩
  replace hw2 := hw2.symm
  subst hw2
  rw [hw2.out] at t0
  have hbr := ct_eff r hr8.out hr2.out hRd.out hwk.out
  have hb0 := brn_any r hr8.out hr2.out wq b
  rw [hk.out, hnm.out, hn.out] at hbr
  rw [hnm.out] at hb0
  have f0 := hFq.out.cell 0
  simp at f0
  replace hb0 := Lib.hid hb0
  replace hbr := Lib.hid hbr
  go_wp2_with (fail)
  refine hb0.out.mono ?_
  rintro e w2 ⟨rfl, hw2⟩
  replace hw2 := hw2.symm
  subst hw2
  go_wp2_with (fail)
  refine hbr.out.mono ?_
  clear f0
  rintro e w2 ⟨rfl, v2, m0, m1, m2, m3, X2, hW2, hR2, hL2, hN2, hS2, hO2⟩
  have hF2 : Bk w2 F _ _ := hO2.bk hFq.out (fun hk => hk.elim h.out.out (fun hk => by have := hFb.out; omega))
  have f0 := hF2.cell 0
  simp at f0
  have f1 := hF2.free 0
  have k0 := hW2.bk.cell 0
  simp at k0
  have hX2 : X2.length = n := by have := congrArg List.length hL2; rw [List.length_map, eff_len _ _ _ hwk.out, List.length_map, hn.out] at this; exact this
  rw [hX2] at hR2
  replace hW2 := Lib.hid hW2
  replace hR2 := Lib.hid hR2
  replace hL2 := Lib.hid hL2
  replace hN2 := Lib.hid hN2
  replace hS2 := Lib.hid hS2
  replace hO2 := Lib.hid hO2
  replace hF2 := Lib.hid hF2
  replace hX2 := Lib.hid hX2
  clear hbr
  try replace i16 := i16.out
  go_wp2_with (fail)
  go_step3
  refine ⟨_, hl1.out, ?_⟩
  have e1 : IntKind.i64.wrap ((n : Int) - 1) = (m : Int) := by have := hl.out; have := hm.out; rw [IntKind.wrap_i64]; omega
  have j0 : (0 : Int) ≤ m := by omega
  have j2 : (m : Int) ≤ c := by have := (hR2.out.form (by have := hX2.out; have := hm.out; omega)); obtain ⟨g1, c1, e, _, _, hc⟩ := this; injection e with _ _ e; have := hX2.out; have := hm.out; omega
  have j3 : m ≤ c := by omega
  go_wp2_with (fail)
  go_still_tail 14, (by kernel_rfl)
  change wpList _ _ _ _ _ w2.drew
  go_wp2_with (fail)
  obtain ⟨hF3, hW3, Y2, hR3, hL3, hO3⟩ := pop_facts (L := (eff (X.map Prod.fst) r here).L) hW2.out hR2.out hL2.out hF2.out hFb.out h.out.out hX2.out hm.out
  obtain ⟨w3, hw3⟩ : ∃ w3, (w2.setCell ⟨F, 0, none⟩ (.slice (some ⟨g, 0, none⟩) m c)).drew = w3 := ⟨_, rfl⟩
  rw [hw3] at hF3 hW3 hR3 hO3
  rw [hw3]
  have k0 := hW3.bk.cell 0
  simp at k0
  replace hF3 := Lib.hid hF3
  replace hW3 := Lib.hid hW3
  replace hR3 := Lib.hid hR3
  replace hL3 := Lib.hid hL3
  replace hO3 := Lib.hid hO3
  clear hw3 e1 j0 j2 j3
  go_step3
  go_wp2_with (fail)
  rw [Exit.noGoto_ret]
  go_returns
  rw [hst.out]
  exact done_of (f := 0) hbw.out hBq.out ((hO2.out.grow (fun k _ hk => .inr hk)).trans (hO3.out.grow (fun k _ hk => .inl hk))) hW3.out.row hF3.out hR3.out hL3.out
set_option maxHeartbeats 4000000 in
set_option maxRecDepth 100000 in
theorem word_c0 (s : ByteArray) (here : Int) (h : Fl w F own v X) (hs : s.size ≤ maxLen) (r : Nat) (hr : row s = r) (hr2 : r < 17) (hr8 : 8 ≤ r) (g c n m : Nat) (hv : v = .slice (some ⟨g, 0, none⟩) n c) (hn : X.length = n) (hm : n = m + 1) (x : Th × Value) (hx : X[m]? = some x) (hb0 : wantK r = 0) (hk0 : (eff (X.map Prod.fst) r here).how = 0) :
    Calls Try.prog 9 #[.pointer (some ⟨F, 0, none⟩), .string s, .int .i64 here] w fun e w' => Done w w' F own (step (X.map Prod.fst) r here) e := by
  have hwk : wantK r = 0 ∨ (topT (X.map Prod.fst)).k = wantK r := by rw [topT_at hn hm hx]; first | exact .inl hb0 | exact .inr hb2
  have hst : step (X.map Prod.fst) r here = ⟨10, [], X.map Prod.fst⟩ := by
    unfold step
    rw [if_neg (by omega), if_neg (fun h => hwk.elim h.1 h.2), hk0]; first | rfl | exact if_neg (by rw [List.length_map, hn]; exact hlt) | exact if_pos (by rw [List.length_map, hn]; exact hlt)
  have hk : (((eff (X.map Prod.fst) r here).how : Nat) : Int) = 0 := by rw [hk0]; rfl
  have hEL : (eff (X.map Prod.fst) r here).how = 0 ∨ (eff (X.map Prod.fst) r here).how = 1 ∨ (eff (X.map Prod.fst) r here).how = 3 → (eff (X.map Prod.fst) r here).L = X.map Prod.fst := eff_same _ _ _
  rw [hk0] at hEL
  replace hEL := hEL (.inl rfl)
  have hw0 : kn (wantK r) = ⟨#[]⟩ := by rw [hb0]; rfl
  have hne := nm_ne r hr2
  have hkn := known_any s w hs
  rw [hr] at hkn
  have hwt := wants_any r hr2
  obtain ⟨nmr, hnm⟩ : ∃ n, nm r = n := ⟨_, rfl⟩
  rw [hnm] at hne hkn hwt
  have hF := h.bk
  have hl := h.len
  rw [hn] at hl
  subst hv
  replace hF := Lib.hid hF
  replace h := Lib.hid h
  replace hkn := Lib.hid hkn
  replace hnm := Lib.hid hnm
  replace hr := Lib.hid hr
  replace hr2 := Lib.hid hr2
  replace hn := Lib.hid hn
  replace hl := Lib.hid hl
  rw [hw0] at hwt
  replace hwt := Lib.hid hwt
  clear hb0 hw0
  replace hEL := Lib.hid hEL
  replace hx := Lib.hid hx
  replace hst := Lib.hid hst
  replace hwk := Lib.hid hwk
  replace hk := Lib.hid hk
  replace hk0 := Lib.hid hk0
  replace hr8 := Lib.hid hr8
  have e1 : IntKind.i64.wrap ((n : Int) - 1) = (m : Int) := by have := hl.out; rw [IntKind.wrap_i64]; omega
  have i0 : (0 : Int) < n := by omega
  have j0 : (0 : Int) ≤ m := by omega
  have j1 : (m : Int) < n := by omega
  replace hm := Lib.hid hm
  go_enter Try.func9, Try.ntmps9
  go_wp2_with (fail)
  refine wp_scope_once2 rfl rfl ?_
  intro R hl0 hl1
  replace hl0 := Lib.hid hl0
  replace hl1 := Lib.hid hl1
  go_wp2_with (fail)
  refine hkn.out.mono ?_
  rintro e w1 ⟨rfl, hb1⟩
  replace hF := Lib.hid (hF.out.kept hb1 hF.out.lt)
  replace hb1 := Lib.hid hb1
  have f0 : ((w1.alloc (.cells #[.string ⟨#[]⟩, .int .i64 0, .int .i64 0, .slice none 0 0] 62)).alloc (.cells #[.slice none 0 0, .int .i64 here, .int .i64 here, .pointer (some ⟨w1.heap.size, 0, none⟩), .string ⟨#[]⟩, .int .i64 0, .int .i64 0, .slice none 0 0] 64)).cell? ⟨F, 0, none⟩ = some (.slice (some ⟨g, 0, none⟩) n c) := ((hF.out.past _).past _).cell 0
  have hwb := Bk.fresh (w1.alloc (.cells #[.string ⟨#[]⟩, .int .i64 0, .int .i64 0, .slice none 0 0] 62)) 64 #[.slice none 0 0, .int .i64 here, .int .i64 here, .pointer (some ⟨w1.heap.size, 0, none⟩), .string ⟨#[]⟩, .int .i64 0, .int .i64 0, .slice none 0 0]
  have hz : (w1.alloc (.cells #[.string ⟨#[]⟩, .int .i64 0, .int .i64 0, .slice none 0 0] 62)).heap.size = w1.heap.size + 1 := by simp
  rw [hz] at hwb
  have hb1' : Below w.heap.size w (((w1.alloc (.cells #[.string ⟨#[]⟩, .int .i64 0, .int .i64 0, .slice none 0 0] 62)).alloc (.cells #[.slice none 0 0, .int .i64 here, .int .i64 here, .pointer (some ⟨w1.heap.size, 0, none⟩), .string ⟨#[]⟩, .int .i64 0, .int .i64 0, .slice none 0 0] 64))) := (hb1.out.alloc hb1.out.size _).alloc (by rw [hz]; have := hb1.out.size; omega) _
  have hFW := Lib.hid ((hF.out.past (.cells #[.string ⟨#[]⟩, .int .i64 0, .int .i64 0, .slice none 0 0] 62)).past (.cells #[.slice none 0 0, .int .i64 here, .int .i64 here, .pointer (some ⟨w1.heap.size, 0, none⟩), .string ⟨#[]⟩, .int .i64 0, .int .i64 0, .slice none 0 0] 64))
  have hFb : F < w1.heap.size + 1 := by have := hF.out.lt; omega
  have hbw : w.heap.size ≤ w1.heap.size + 1 := by have := hb1.out.size; omega
  have d3 := hwb.free 3
  have c3 : _ = some (Value.pointer (some ⟨w1.heap.size, 0, none⟩)) := hwb.cell 3
  replace hwb := Lib.hid hwb
  replace hb1' := Lib.hid hb1'
  replace hbw := Lib.hid hbw
  clear hz
  go_wp2_with (fail)
  generalize (w1.alloc (.cells #[.string ⟨#[]⟩, .int .i64 0, .int .i64 0, .slice none 0 0] 62)).alloc (.cells #[.slice none 0 0, .int .i64 here, .int .i64 here, .pointer (some ⟨w1.heap.size, 0, none⟩), .string ⟨#[]⟩, .int .i64 0, .int .i64 0, .slice none 0 0] 64) = W at *
  generalize w1.heap.size + 1 = b at *
  go_still_tail 14, (by kernel_rfl)
  change wpList _ _ _ _ _ W.drew
  have hRd := rd_of (T := ⟨g, m * 4, none⟩) (here := here) h.out (by rw [hn.out]) (W := (W.setCell ⟨b, 3, none⟩ (.pointer (some ⟨g, m * 4, none⟩))).drew) (hb1'.out.setCell hbw.out _).drew hbw.out (hwb.out.put 3 _) (fun _ => ⟨g, rfl, by rw [hn.out]; congr 2; have := hm.out; omega⟩)
  have hFq := (hFW.out.other (p := ⟨b, 3, none⟩) (show F ≠ b by omega) (.pointer (some ⟨g, m * 4, none⟩))).draw
  have hBq := (hb1'.out.setCell (p := ⟨b, 3, none⟩) hbw.out (.pointer (some ⟨g, m * 4, none⟩))).drew
  go_wp2_with (fail)
  obtain ⟨wq, hwq⟩ : ∃ wq, (W.setCell ⟨b, 3, none⟩ (.pointer (some ⟨g, m * 4, none⟩))).drew = wq := ⟨_, rfl⟩
  rw [hwq] at hRd hBq hFq
  try rw [hwq]
  have hTp : Tp wq g (m * 4) (kn x.1.k) x.1.at_ x.1.tgt x.2 := Rws.tp (c := c) (by have := hRd.rw; exact this) m x hx.out
  have t0 := hTp.c0
  have a3 := hRd.wk.bk.cell 3
  simp at a3
  replace hRd := Lib.hid hRd
  replace hFq := Lib.hid hFq
  replace hBq := Lib.hid hBq
  replace hTp := Lib.hid hTp
  replace hFb := Lib.hid hFb
  clear hwq f0 d3 c3 hwb hb1' hFW hF hb1 e1 j0 j1
  refine (hwt.out _).mono ?_
  rintro e w2 ⟨rfl, hw2⟩
  replace hw2 := hw2.symm
  subst hw2
  have hbr := ct_eff r hr8.out hr2.out hRd.out hwk.out
  have hb0 := brn_any r hr8.out hr2.out wq b
  rw [hk.out, hnm.out, hn.out] at hbr
  rw [hnm.out] at hb0
  have f0 := hFq.out.cell 0
  simp at f0
  replace hb0 := Lib.hid hb0
  replace hbr := Lib.hid hbr
  go_wp2_with (fail)
  refine hb0.out.mono ?_
  rintro e w2 ⟨rfl, hw2⟩
  replace hw2 := hw2.symm
  subst hw2
  go_wp2_with (fail)
  refine hbr.out.mono ?_
  clear f0
  rintro e w2 ⟨rfl, v2, m0, m1, m2, m3, X2, hW2, hR2, hL2, hN2, hS2, hO2⟩
  have hF2 : Bk w2 F _ _ := hO2.bk hFq.out (fun hk => hk.elim h.out.out (fun hk => by have := hFb.out; omega))
  have f0 := hF2.cell 0
  simp at f0
  have f1 := hF2.free 0
  have k0 := hW2.bk.cell 0
  simp at k0
  have hX2 : X2.length = n := by have := congrArg List.length hL2; rw [List.length_map, eff_len _ _ _ hwk.out, List.length_map, hn.out] at this; exact this
  rw [hX2] at hR2
  replace hW2 := Lib.hid hW2
  replace hR2 := Lib.hid hR2
  replace hL2 := Lib.hid hL2
  replace hN2 := Lib.hid hN2
  replace hS2 := Lib.hid hS2
  replace hO2 := Lib.hid hO2
  replace hF2 := Lib.hid hF2
  replace hX2 := Lib.hid hX2
  clear hbr
  try replace i16 := i16.out
  go_wp2_with (fail)
  rw [Exit.once_ret]
  go_returns
  rw [hst.out]
  exact done_of (f := 10) hbw.out hBq.out (hO2.out.grow (fun k _ hk => .inr hk)) (World.ownsRow_nil _ _ _ _) hF2.out hR2.out (by rw [hL2.out]; exact hEL.out)
end
end Go.Proofs.Ytmfffaocmboelaa
