import Derived.Test.YtmfffaocmboelaaFwL
namespace Go.Proofs.Ytmfffaocmboelaa
open Go.RowKit
set_option linter.unusedVariables false
set_option linter.unusedSimpArgs false
/-! Word: where nothing is open -/
section
variable {w w' : World} {F : Nat} {own : Nat → Prop} {v : Value} {X : List (Th × Value)}
set_option maxHeartbeats 4000000 in
set_option maxRecDepth 100000 in
theorem word_e1 (s : ByteArray) (here : Int) (h : Fl w F own v X) (hs : s.size ≤ maxLen) (r : Nat) (hr : row s = r) (hr2 : r < 17) (hr8 : r < 8) (A : Option Addr) (c n : Nat) (hv : v = .slice A n c) (hn : X.length = n) (hm : n = 0) (hb0 : wantK r = 0) (hk0 : (eff (X.map Prod.fst) r here).how = 1) :
    Calls Try.prog 9 #[.pointer (some ⟨F, 0, none⟩), .string s, .int .i64 here] w fun e w' => Done w w' F own (step (X.map Prod.fst) r here) e := by
  have hwk : wantK r = 0 ∨ (topT (X.map Prod.fst)).k = wantK r := by exact .inl hb0
  have hst : step (X.map Prod.fst) r here = ⟨0, (eff (X.map Prod.fst) r here).acts, X.map Prod.fst ++ [(eff (X.map Prod.fst) r here).nx]⟩ := by
    unfold step
    rw [if_neg (by omega), if_neg (fun h => hwk.elim h.1 h.2), hk0]; first | rfl | exact if_neg (by rw [List.length_map, hn]; omega) | exact if_pos (by rw [List.length_map, hn]; exact hlt)
  have hk : (((eff (X.map Prod.fst) r here).how : Nat) : Int) = 1 := by rw [hk0]; rfl
  have hEL : (eff (X.map Prod.fst) r here).how = 0 ∨ (eff (X.map Prod.fst) r here).how = 1 ∨ (eff (X.map Prod.fst) r here).how = 3 → (eff (X.map Prod.fst) r here).L = X.map Prod.fst := eff_same _ _ _
  rw [hk0] at hEL
  have hlt : ¬ n = 16 := by omega
  have i16 : ((n : Int) == 16) = false := by simp; omega
  replace hEL := hEL (.inr (.inl rfl))
  have hw0 : kn (wantK r) = ⟨#[]⟩ := by rw [hb0]; rfl
  have hne := nm_ne r hr2
  have hkn := known_any s w hs
  rw [hr] at hkn
  have hwt := wants_any r hr2
  obtain ⟨nmr, hnm⟩ : ∃ n, nm r = n := ⟨_, rfl⟩
  rw [hnm] at hne hkn hwt
  have hF := h.bk
  have hl := h.len
  rw [hn] at hl
  subst hv
  replace hF := Lib.hid hF
  replace h := Lib.hid h
  replace hkn := Lib.hid hkn
  replace hnm := Lib.hid hnm
  replace hr := Lib.hid hr
  replace hr2 := Lib.hid hr2
  replace hn := Lib.hid hn
  replace hl := Lib.hid hl
  rw [hw0] at hwt
  replace hwt := Lib.hid hwt
  clear hb0 hw0
  replace hEL := Lib.hid hEL
  replace hst := Lib.hid hst
  replace hwk := Lib.hid hwk
  replace hk := Lib.hid hk
  replace hk0 := Lib.hid hk0
  replace hr8 := Lib.hid hr8
  have i0 : decide (0 < n) = false := by have := hm; simp; omega
  replace hm := Lib.hid hm
  go_enter Try.func9, Try.ntmps9
  go_wp2_with (fail)
  refine wp_scope_once2 rfl rfl ?_
  intro R hl0 hl1
  replace hl0 := Lib.hid hl0
  replace hl1 := Lib.hid hl1
  go_wp2_with (fail)
  refine hkn.out.mono ?_
  rintro e w1 ⟨rfl, hb1⟩
  replace hF := Lib.hid (hF.out.kept hb1 hF.out.lt)
  replace hb1 := Lib.hid hb1
  have f0 : ((w1.alloc (.cells #[.string ⟨#[]⟩, .int .i64 0, .int .i64 0, .slice none 0 0] 62)).alloc (.cells #[.slice none 0 0, .int .i64 here, .int .i64 here, .pointer (some ⟨w1.heap.size, 0, none⟩), .string ⟨#[]⟩, .int .i64 0, .int .i64 0, .slice none 0 0] 64)).cell? ⟨F, 0, none⟩ = some (.slice A n c) := ((hF.out.past _).past _).cell 0
  have hwb := Bk.fresh (w1.alloc (.cells #[.string ⟨#[]⟩, .int .i64 0, .int .i64 0, .slice none 0 0] 62)) 64 #[.slice none 0 0, .int .i64 here, .int .i64 here, .pointer (some ⟨w1.heap.size, 0, none⟩), .string ⟨#[]⟩, .int .i64 0, .int .i64 0, .slice none 0 0]
  have hz : (w1.alloc (.cells #[.string ⟨#[]⟩, .int .i64 0, .int .i64 0, .slice none 0 0] 62)).heap.size = w1.heap.size + 1 := by simp
  rw [hz] at hwb
  have hb1' : Below w.heap.size w (((w1.alloc (.cells #[.string ⟨#[]⟩, .int .i64 0, .int .i64 0, .slice none 0 0] 62)).alloc (.cells #[.slice none 0 0, .int .i64 here, .int .i64 here, .pointer (some ⟨w1.heap.size, 0, none⟩), .string ⟨#[]⟩, .int .i64 0, .int .i64 0, .slice none 0 0] 64))) := (hb1.out.alloc hb1.out.size _).alloc (by rw [hz]; have := hb1.out.size; omega) _
  have hFW := Lib.hid ((hF.out.past (.cells #[.string ⟨#[]⟩, .int .i64 0, .int .i64 0, .slice none 0 0] 62)).past (.cells #[.slice none 0 0, .int .i64 here, .int .i64 here, .pointer (some ⟨w1.heap.size, 0, none⟩), .string ⟨#[]⟩, .int .i64 0, .int .i64 0, .slice none 0 0] 64))
  have hFb : F < w1.heap.size + 1 := by have := hF.out.lt; omega
  have hbw : w.heap.size ≤ w1.heap.size + 1 := by have := hb1.out.size; omega
  have d3 := hwb.free 3
  have c3 : _ = some (Value.pointer (some ⟨w1.heap.size, 0, none⟩)) := hwb.cell 3
  replace hwb := Lib.hid hwb
  replace hb1' := Lib.hid hb1'
  replace hbw := Lib.hid hbw
  clear hz
  go_wp2_with (fail)
  generalize hWW : (w1.alloc (.cells #[.string ⟨#[]⟩, .int .i64 0, .int .i64 0, .slice none 0 0] 62)).alloc (.cells #[.slice none 0 0, .int .i64 here, .int .i64 here, .pointer (some ⟨w1.heap.size, 0, none⟩), .string ⟨#[]⟩, .int .i64 0, .int .i64 0, .slice none 0 0] 64) = wq at *
  have hTT : Bk wq w1.heap.size 62 #[.string ⟨#[]⟩, .int .i64 0, .int .i64 0, .slice none 0 0] := by rw [← hWW]; exact (Bk.fresh w1 _ _).past _
  have hRd := rd_of (T := ⟨w1.heap.size, 0, none⟩) (here := here) h.out (by rw [hn.out]) hb1'.out hbw.out hwb.out (fun hX => absurd (List.eq_nil_of_length_eq_zero (by rw [hn.out]; exact hm.out)) hX)
  have t0 := hTT.cell 0
  simp at t0
  have hFq := hFW.out
  have hBq := hb1'.out
  generalize w1.heap.size + 1 = b at *
  replace hRd := Lib.hid hRd
  replace hFq := Lib.hid hFq
  replace hBq := Lib.hid hBq
  replace hTT := Lib.hid hTT
  replace hFb := Lib.hid hFb
  clear d3 hwb hb1' hFW hF hb1 hWW
  clear f0 c3
  refine (hwt.out _).mono ?_
  rintro e w2 ⟨rfl, hw2⟩
  replace hw2 := hw2.symm
  subst hw2
  have hbr := br_eff r hr8.out hRd.out hwk.out
  rw [hk.out, hnm.out] at hbr
  replace hbr := Lib.hid hbr
  go_wp2_with (fail)
  refine hbr.out.mono ?_
  rintro e w2 ⟨rfl, v2, m0, m1, m2, m3, X2, hW2, hR2, hL2, hN2, hS2, hO2⟩
  have hF2 : Bk w2 F _ _ := hO2.bk hFq.out (fun hk => hk.elim h.out.out (fun hk => by have := hFb.out; omega))
  have f0 := hF2.cell 0
  simp at f0
  have f1 := hF2.free 0
  have k0 := hW2.bk.cell 0
  simp at k0
  have hX2 : X2.length = n := by have := congrArg List.length hL2; rw [List.length_map, eff_len _ _ _ hwk.out, List.length_map, hn.out] at this; exact this
  rw [hX2] at hR2
  replace hW2 := Lib.hid hW2
  replace hR2 := Lib.hid hR2
  replace hL2 := Lib.hid hL2
  replace hN2 := Lib.hid hN2
  replace hS2 := Lib.hid hS2
  replace hO2 := Lib.hid hO2
  replace hF2 := Lib.hid hF2
  replace hX2 := Lib.hid hX2
  clear hbr
  try replace i16 := i16.out
  go_wp2_with (fail)
  obtain ⟨rfl, rfl, rfl, hm3⟩ := hN2.out hk0.out
  have hR0 := hS2.out (.inl hk0.out)
  rw [hX2.out] at hR0
  have hz1 : b ≤ w2.heap.size := by have := hW2.out.bk.lt; omega
  obtain ⟨A', c', w4, hrun, hR4, hO4, hgr4⟩ := (show Rws w2.drew own _ _ from hR0.frame (s := fun _ => False) ⟨rfl, rfl, rfl, Nat.le_refl _, fun _ _ _ => rfl⟩ (fun _ _ h => h)).push ((eff (X.map Prod.fst) r here).nx, m3) (own_base hm3 (Nat.zero_le _)) (B := b) hz1 (fun q hq => ⟨own_ge hm3 q hq, fun ho => by have := hRd.out.own q ho; have := own_ge hm3 q hq; omega⟩) (by have := hX2.out; have := hl.out; omega)
  rw [hX2.out] at hrun
  have hF4 : Bk w4 F _ _ := hO4.bk hF2.out.draw (fun hk => hk.elim h.out.out (fun hk => by have := hFb.out; omega))
  have hz4 := hO4.size
  have hrow4 : w4.ownsRow (b + 1) 36 4 v2 _ _ := hW2.out.row.kept (w := w2.drew) hgr4 (own_far hW2.out.row hR0.row (by decide))
  have hb4 := Lib.hid (Bk.grown (show Bk w2.drew b _ _ from hW2.out.bk) hgr4 (Bk.far hW2.out.bk hR0.row (by decide)))
  have g0 := hF4.cell 0
  simp at g0
  have g1 := hF4.free 0
  have hFp := hF2.out.past (.cells #[.string (kn (eff (X.map Prod.fst) r here).nx.k), .int .i64 (eff (X.map Prod.fst) r here).nx.at_, .int .i64 (eff (X.map Prod.fst) r here).nx.tgt, m3] 62)
  have f2 := hFp.cell 0
  simp at f2
  have b4 := hW2.out.bk.cell 4
  have b5 := hW2.out.bk.cell 5
  have b6 := hW2.out.bk.cell 6
  have b7 := hW2.out.bk.cell 7
  simp at b4 b5 b6 b7
  generalize (eff (X.map Prod.fst) r here).nx = nx at *
  obtain ⟨nk, na, nt, nmo⟩ := nx
  simp only at *
  clear hFp hgr4 hm3
  obtain ⟨kw, hkw⟩ : ∃ kw, kn nk = kw := ⟨_, rfl⟩
  rw [hkw] at hrun b4 f2
  obtain ⟨hF5, hrow5, hR5, hO5⟩ := push_facts hF4 hrow4 hR4 (by rw [List.length_append, hX2.out]) hFb.out h.out.out
  have hL5 : (X2 ++ [((⟨nk, na, nt, nmo⟩ : Th), m3)]).map Prod.fst = X.map Prod.fst ++ [⟨nk, na, nt, nmo⟩] := by rw [List.map_append, hL2.out, hEL.out]; rfl
  replace hF5 := Lib.hid hF5
  replace hrow5 := Lib.hid hrow5
  replace hR5 := Lib.hid hR5
  replace hO5 := Lib.hid hO5
  replace hL5 := Lib.hid hL5
  replace hrun := Lib.hid hrun
  replace hR4 := Lib.hid hR4
  replace hO4 := Lib.hid hO4
  replace hrow4 := Lib.hid hrow4
  replace hF4 := Lib.hid hF4
  replace hR0 := Lib.hid hR0
  replace hz1 := Lib.hid hz1
  replace hz4 := Lib.hid hz4
  replace hkw := Lib.hid hkw
  go_region_law (refine step_append_run rfl (.tmp 101) (.tmp 106) 55 rfl (.slice A n c) _ _ rfl rfl hrun.out ?_)
  all_goals (go_wp2_with (fail))
  all_goals go_step3
  all_goals (
    refine ⟨_, hl0.out, ?_⟩
    have k0 : (w4.setCell ⟨F, 0, none⟩ (.slice A' (n + 1) c')).cell? ⟨b, 0, none⟩ = some v2 := (hb4.out.other (p := ⟨F, 0, none⟩) (by have := hFb.out; show b ≠ F; omega) _).cell 0
    go_wp2_with (fail)
    rw [Exit.noGoto_ret]
    go_returns
    rw [hst.out]
    exact done_of (f := 0) hbw.out hBq.out (((hO2.out.grow (fun k _ hk => .inr hk)).draw).trans ((hO4.out.grow (fun k _ hk => .inr hk)).trans (hO5.out.grow (fun k _ hk => .inl hk)))) hrow5.out hF5.out hR5.out hL5.out)
set_option maxHeartbeats 4000000 in
set_option maxRecDepth 100000 in
theorem word_f1 (s : ByteArray) (here : Int) (h : Fl w F own v X) (hs : s.size ≤ maxLen) (r : Nat) (hr : row s = r) (hr2 : r < 17) (hr8 : 8 ≤ r) (A : Option Addr) (c n : Nat) (hv : v = .slice A n c) (hn : X.length = n) (hm : n = 0) (hb0 : wantK r = 0) (hk0 : (eff (X.map Prod.fst) r here).how = 1) :
    Calls Try.prog 9 #[.pointer (some ⟨F, 0, none⟩), .string s, .int .i64 here] w fun e w' => Done w w' F own (step (X.map Prod.fst) r here) e := by
  have hwk : wantK r = 0 ∨ (topT (X.map Prod.fst)).k = wantK r := by exact .inl hb0
  have hst : step (X.map Prod.fst) r here = ⟨0, (eff (X.map Prod.fst) r here).acts, X.map Prod.fst ++ [(eff (X.map Prod.fst) r here).nx]⟩ := by
    unfold step
    rw [if_neg (by omega), if_neg (fun h => hwk.elim h.1 h.2), hk0]; first | rfl | exact if_neg (by rw [List.length_map, hn]; omega) | exact if_pos (by rw [List.length_map, hn]; exact hlt)
  have hk : (((eff (X.map Prod.fst) r here).how : Nat) : Int) = 1 := by rw [hk0]; rfl
  have hEL : (eff (X.map Prod.fst) r here).how = 0 ∨ (eff (X.map Prod.fst) r here).how = 1 ∨ (eff (X.map Prod.fst) r here).how = 3 → (eff (X.map Prod.fst) r here).L = X.map Prod.fst := eff_same _ _ _
  rw [hk0] at hEL
  have hlt : ¬ n = 16 := by omega
  have i16 : ((n : Int) == 16) = false := by simp; omega
  replace hEL := hEL (.inr (.inl rfl))
  have hw0 : kn (wantK r) = ⟨#[]⟩ := by rw [hb0]; rfl
  have hne := nm_ne r hr2
  have hkn := known_any s w hs
  rw [hr] at hkn
  have hwt := wants_any r hr2
  obtain ⟨nmr, hnm⟩ : ∃ n, nm r = n := ⟨_, rfl⟩
  rw [hnm] at hne hkn hwt
  have hF := h.bk
  have hl := h.len
  rw [hn] at hl
  subst hv
  replace hF := Lib.hid hF
  replace h := Lib.hid h
  replace hkn := Lib.hid hkn
  replace hnm := Lib.hid hnm
  replace hr := Lib.hid hr
  replace hr2 := Lib.hid hr2
  replace hn := Lib.hid hn
  replace hl := Lib.hid hl
  rw [hw0] at hwt
  replace hwt := Lib.hid hwt
  clear hb0 hw0
  replace hEL := Lib.hid hEL
  replace hst := Lib.hid hst
  replace hwk := Lib.hid hwk
  replace hk := Lib.hid hk
  replace hk0 := Lib.hid hk0
  replace hr8 := Lib.hid hr8
  have i0 : decide (0 < n) = false := by have := hm; simp; omega
  replace hm := Lib.hid hm
  go_enter Try.func9, Try.ntmps9
  go_wp2_with (fail)
  refine wp_scope_once2 rfl rfl ?_
  intro R hl0 hl1
  replace hl0 := Lib.hid hl0
  replace hl1 := Lib.hid hl1
  go_wp2_with (fail)
  refine hkn.out.mono ?_
  rintro e w1 ⟨rfl, hb1⟩
  replace hF := Lib.hid (hF.out.kept hb1 hF.out.lt)
  replace hb1 := Lib.hid hb1
  have f0 : ((w1.alloc (.cells #[.string ⟨#[]⟩, .int .i64 0, .int .i64 0, .slice none 0 0] 62)).alloc (.cells #[.slice none 0 0, .int .i64 here, .int .i64 here, .pointer (some ⟨w1.heap.size, 0, none⟩), .string ⟨#[]⟩, .int .i64 0, .int .i64 0, .slice none 0 0] 64)).cell? ⟨F, 0, none⟩ = some (.slice A n c) := ((hF.out.past _).past _).cell 0
  have hwb := Bk.fresh (w1.alloc (.cells #[.string ⟨#[]⟩, .int .i64 0, .int .i64 0, .slice none 0 0] 62)) 64 #[.slice none 0 0, .int .i64 here, .int .i64 here, .pointer (some ⟨w1.heap.size, 0, none⟩), .string ⟨#[]⟩, .int .i64 0, .int .i64 0, .slice none 0 0]
  have hz : (w1.alloc (.cells #[.string ⟨#[]⟩, .int .i64 0, .int .i64 0, .slice none 0 0] 62)).heap.size = w1.heap.size + 1 := by simp
  rw [hz] at hwb
  have hb1' : Below w.heap.size w (((w1.alloc (.cells #[.string ⟨#[]⟩, .int .i64 0, .int .i64 0, .slice none 0 0] 62)).alloc (.cells #[.slice none 0 0, .int .i64 here, .int .i64 here, .pointer (some ⟨w1.heap.size, 0, none⟩), .string ⟨#[]⟩, .int .i64 0, .int .i64 0, .slice none 0 0] 64))) := (hb1.out.alloc hb1.out.size _).alloc (by rw [hz]; have := hb1.out.size; omega) _
  have hFW := Lib.hid ((hF.out.past (.cells #[.string ⟨#[]⟩, .int .i64 0, .int .i64 0, .slice none 0 0] 62)).past (.cells #[.slice none 0 0, .int .i64 here, .int .i64 here, .pointer (some ⟨w1.heap.size, 0, none⟩), .string ⟨#[]⟩, .int .i64 0, .int .i64 0, .slice none 0 0] 64))
  have hFb : F < w1.heap.size + 1 := by have := hF.out.lt; omega
  have hbw : w.heap.size ≤ w1.heap.size + 1 := by have := hb1.out.size; omega
  have d3 := hwb.free 3
  have c3 : _ = some (Value.pointer (some ⟨w1.heap.size, 0, none⟩)) := hwb.cell 3
  replace hwb := Lib.hid hwb
  replace hb1' := Lib.hid hb1'
  replace hbw := Lib.hid hbw
  clear hz
  go_wp2_with (fail)
  generalize hWW : (w1.alloc (.cells #[.string ⟨#[]⟩, .int .i64 0, .int .i64 0, .slice none 0 0] 62)).alloc (.cells #[.slice none 0 0, .int .i64 here, .int .i64 here, .pointer (some ⟨w1.heap.size, 0, none⟩), .string ⟨#[]⟩, .int .i64 0, .int .i64 0, .slice none 0 0] 64) = wq at *
  have hTT : Bk wq w1.heap.size 62 #[.string ⟨#[]⟩, .int .i64 0, .int .i64 0, .slice none 0 0] := by rw [← hWW]; exact (Bk.fresh w1 _ _).past _
  have hRd := rd_of (T := ⟨w1.heap.size, 0, none⟩) (here := here) h.out (by rw [hn.out]) hb1'.out hbw.out hwb.out (fun hX => absurd (List.eq_nil_of_length_eq_zero (by rw [hn.out]; exact hm.out)) hX)
  have t0 := hTT.cell 0
  simp at t0
  have hFq := hFW.out
  have hBq := hb1'.out
  generalize w1.heap.size + 1 = b at *
  replace hRd := Lib.hid hRd
  replace hFq := Lib.hid hFq
  replace hBq := Lib.hid hBq
  replace hTT := Lib.hid hTT
  replace hFb := Lib.hid hFb
  clear d3 hwb hb1' hFW hF hb1 hWW
  clear f0 c3
  refine (hwt.out _).mono ?_
  rintro e w2 ⟨rfl, hw2⟩
  replace hw2 := hw2.symm
  subst hw2
  have hbr := ct_eff r hr8.out hr2.out hRd.out hwk.out
  have hb0 := brn_any r hr8.out hr2.out wq b
  rw [hk.out, hnm.out, hn.out] at hbr
  rw [hnm.out] at hb0
  have f0 := hFq.out.cell 0
  simp at f0
  replace hb0 := Lib.hid hb0
  replace hbr := Lib.hid hbr
  go_wp2_with (fail)
  refine hb0.out.mono ?_
  rintro e w2 ⟨rfl, hw2⟩
  replace hw2 := hw2.symm
  subst hw2
  go_wp2_with (fail)
  refine hbr.out.mono ?_
  clear f0
  rintro e w2 ⟨rfl, v2, m0, m1, m2, m3, X2, hW2, hR2, hL2, hN2, hS2, hO2⟩
  have hF2 : Bk w2 F _ _ := hO2.bk hFq.out (fun hk => hk.elim h.out.out (fun hk => by have := hFb.out; omega))
  have f0 := hF2.cell 0
  simp at f0
  have f1 := hF2.free 0
  have k0 := hW2.bk.cell 0
  simp at k0
  have hX2 : X2.length = n := by have := congrArg List.length hL2; rw [List.length_map, eff_len _ _ _ hwk.out, List.length_map, hn.out] at this; exact this
  rw [hX2] at hR2
  replace hW2 := Lib.hid hW2
  replace hR2 := Lib.hid hR2
  replace hL2 := Lib.hid hL2
  replace hN2 := Lib.hid hN2
  replace hS2 := Lib.hid hS2
  replace hO2 := Lib.hid hO2
  replace hF2 := Lib.hid hF2
  replace hX2 := Lib.hid hX2
  clear hbr
  try replace i16 := i16.out
  go_wp2_with (fail)
  obtain ⟨rfl, rfl, rfl, hm3⟩ := hN2.out hk0.out
  have hR0 := hS2.out (.inl hk0.out)
  rw [hX2.out] at hR0
  have hz1 : b ≤ w2.heap.size := by have := hW2.out.bk.lt; omega
  obtain ⟨A', c', w4, hrun, hR4, hO4, hgr4⟩ := (show Rws w2.drew own _ _ from hR0.frame (s := fun _ => False) ⟨rfl, rfl, rfl, Nat.le_refl _, fun _ _ _ => rfl⟩ (fun _ _ h => h)).push ((eff (X.map Prod.fst) r here).nx, m3) (own_base hm3 (Nat.zero_le _)) (B := b) hz1 (fun q hq => ⟨own_ge hm3 q hq, fun ho => by have := hRd.out.own q ho; have := own_ge hm3 q hq; omega⟩) (by have := hX2.out; have := hl.out; omega)
  rw [hX2.out] at hrun
  have hF4 : Bk w4 F _ _ := hO4.bk hF2.out.draw (fun hk => hk.elim h.out.out (fun hk => by have := hFb.out; omega))
  have hz4 := hO4.size
  have hrow4 : w4.ownsRow (b + 1) 36 4 v2 _ _ := hW2.out.row.kept (w := w2.drew) hgr4 (own_far hW2.out.row hR0.row (by decide))
  have hb4 := Lib.hid (Bk.grown (show Bk w2.drew b _ _ from hW2.out.bk) hgr4 (Bk.far hW2.out.bk hR0.row (by decide)))
  have g0 := hF4.cell 0
  simp at g0
  have g1 := hF4.free 0
  have hFp := hF2.out.past (.cells #[.string (kn (eff (X.map Prod.fst) r here).nx.k), .int .i64 (eff (X.map Prod.fst) r here).nx.at_, .int .i64 (eff (X.map Prod.fst) r here).nx.tgt, m3] 62)
  have f2 := hFp.cell 0
  simp at f2
  have b4 := hW2.out.bk.cell 4
  have b5 := hW2.out.bk.cell 5
  have b6 := hW2.out.bk.cell 6
  have b7 := hW2.out.bk.cell 7
  simp at b4 b5 b6 b7
  generalize (eff (X.map Prod.fst) r here).nx = nx at *
  obtain ⟨nk, na, nt, nmo⟩ := nx
  simp only at *
  clear hFp hgr4 hm3
  obtain ⟨kw, hkw⟩ : ∃ kw, kn nk = kw := ⟨_, rfl⟩
  rw [hkw] at hrun b4 f2
  obtain ⟨hF5, hrow5, hR5, hO5⟩ := push_facts hF4 hrow4 hR4 (by rw [List.length_append, hX2.out]) hFb.out h.out.out
  have hL5 : (X2 ++ [((⟨nk, na, nt, nmo⟩ : Th), m3)]).map Prod.fst = X.map Prod.fst ++ [⟨nk, na, nt, nmo⟩] := by rw [List.map_append, hL2.out, hEL.out]; rfl
  replace hF5 := Lib.hid hF5
  replace hrow5 := Lib.hid hrow5
  replace hR5 := Lib.hid hR5
  replace hO5 := Lib.hid hO5
  replace hL5 := Lib.hid hL5
  replace hrun := Lib.hid hrun
  replace hR4 := Lib.hid hR4
  replace hO4 := Lib.hid hO4
  replace hrow4 := Lib.hid hrow4
  replace hF4 := Lib.hid hF4
  replace hR0 := Lib.hid hR0
  replace hz1 := Lib.hid hz1
  replace hz4 := Lib.hid hz4
  replace hkw := Lib.hid hkw
  go_region_law (refine step_append_run rfl (.tmp 101) (.tmp 106) 55 rfl (.slice A n c) _ _ rfl rfl hrun.out ?_)
  all_goals (go_wp2_with (fail))
  all_goals go_step3
  all_goals (
    refine ⟨_, hl0.out, ?_⟩
    have k0 : (w4.setCell ⟨F, 0, none⟩ (.slice A' (n + 1) c')).cell? ⟨b, 0, none⟩ = some v2 := (hb4.out.other (p := ⟨F, 0, none⟩) (by have := hFb.out; show b ≠ F; omega) _).cell 0
    go_wp2_with (fail)
    rw [Exit.noGoto_ret]
    go_returns
    rw [hst.out]
    exact done_of (f := 0) hbw.out hBq.out (((hO2.out.grow (fun k _ hk => .inr hk)).draw).trans ((hO4.out.grow (fun k _ hk => .inr hk)).trans (hO5.out.grow (fun k _ hk => .inl hk)))) hrow5.out hF5.out hR5.out hL5.out)
set_option maxHeartbeats 4000000 in
set_option maxRecDepth 100000 in
theorem word_f0 (s : ByteArray) (here : Int) (h : Fl w F own v X) (hs : s.size ≤ maxLen) (r : Nat) (hr : row s = r) (hr2 : r < 17) (hr8 : 8 ≤ r) (A : Option Addr) (c n : Nat) (hv : v = .slice A n c) (hn : X.length = n) (hm : n = 0) (hb0 : wantK r = 0) (hk0 : (eff (X.map Prod.fst) r here).how = 0) :
    Calls Try.prog 9 #[.pointer (some ⟨F, 0, none⟩), .string s, .int .i64 here] w fun e w' => Done w w' F own (step (X.map Prod.fst) r here) e := by
  have hwk : wantK r = 0 ∨ (topT (X.map Prod.fst)).k = wantK r := by exact .inl hb0
  have hst : step (X.map Prod.fst) r here = ⟨10, [], X.map Prod.fst⟩ := by
    unfold step
    rw [if_neg (by omega), if_neg (fun h => hwk.elim h.1 h.2), hk0]; first | rfl | exact if_neg (by rw [List.length_map, hn]; omega) | exact if_pos (by rw [List.length_map, hn]; exact hlt)
  have hk : (((eff (X.map Prod.fst) r here).how : Nat) : Int) = 0 := by rw [hk0]; rfl
  have hEL : (eff (X.map Prod.fst) r here).how = 0 ∨ (eff (X.map Prod.fst) r here).how = 1 ∨ (eff (X.map Prod.fst) r here).how = 3 → (eff (X.map Prod.fst) r here).L = X.map Prod.fst := eff_same _ _ _
  rw [hk0] at hEL
  have hlt : ¬ n = 16 := by omega
  have i16 : ((n : Int) == 16) = false := by simp; omega
  replace hEL := hEL (.inl rfl)
  have hw0 : kn (wantK r) = ⟨#[]⟩ := by rw [hb0]; rfl
  have hne := nm_ne r hr2
  have hkn := known_any s w hs
  rw [hr] at hkn
  have hwt := wants_any r hr2
  obtain ⟨nmr, hnm⟩ : ∃ n, nm r = n := ⟨_, rfl⟩
  rw [hnm] at hne hkn hwt
  have hF := h.bk
  have hl := h.len
  rw [hn] at hl
  subst hv
  replace hF := Lib.hid hF
  replace h := Lib.hid h
  replace hkn := Lib.hid hkn
  replace hnm := Lib.hid hnm
  replace hr := Lib.hid hr
  replace hr2 := Lib.hid hr2
  replace hn := Lib.hid hn
  replace hl := Lib.hid hl
  rw [hw0] at hwt
  replace hwt := Lib.hid hwt
  clear hb0 hw0
  replace hEL := Lib.hid hEL
  replace hst := Lib.hid hst
  replace hwk := Lib.hid hwk
  replace hk := Lib.hid hk
  replace hk0 := Lib.hid hk0
  replace hr8 := Lib.hid hr8
  have i0 : decide (0 < n) = false := by have := hm; simp; omega
  replace hm := Lib.hid hm
  go_enter Try.func9, Try.ntmps9
  go_wp2_with (fail)
  refine wp_scope_once2 rfl rfl ?_
  intro R hl0 hl1
  replace hl0 := Lib.hid hl0
  replace hl1 := Lib.hid hl1
  go_wp2_with (fail)
  refine hkn.out.mono ?_
  rintro e w1 ⟨rfl, hb1⟩
  replace hF := Lib.hid (hF.out.kept hb1 hF.out.lt)
  replace hb1 := Lib.hid hb1
  have f0 : ((w1.alloc (.cells #[.string ⟨#[]⟩, .int .i64 0, .int .i64 0, .slice none 0 0] 62)).alloc (.cells #[.slice none 0 0, .int .i64 here, .int .i64 here, .pointer (some ⟨w1.heap.size, 0, none⟩), .string ⟨#[]⟩, .int .i64 0, .int .i64 0, .slice none 0 0] 64)).cell? ⟨F, 0, none⟩ = some (.slice A n c) := ((hF.out.past _).past _).cell 0
  have hwb := Bk.fresh (w1.alloc (.cells #[.string ⟨#[]⟩, .int .i64 0, .int .i64 0, .slice none 0 0] 62)) 64 #[.slice none 0 0, .int .i64 here, .int .i64 here, .pointer (some ⟨w1.heap.size, 0, none⟩), .string ⟨#[]⟩, .int .i64 0, .int .i64 0, .slice none 0 0]
  have hz : (w1.alloc (.cells #[.string ⟨#[]⟩, .int .i64 0, .int .i64 0, .slice none 0 0] 62)).heap.size = w1.heap.size + 1 := by simp
  rw [hz] at hwb
  have hb1' : Below w.heap.size w (((w1.alloc (.cells #[.string ⟨#[]⟩, .int .i64 0, .int .i64 0, .slice none 0 0] 62)).alloc (.cells #[.slice none 0 0, .int .i64 here, .int .i64 here, .pointer (some ⟨w1.heap.size, 0, none⟩), .string ⟨#[]⟩, .int .i64 0, .int .i64 0, .slice none 0 0] 64))) := (hb1.out.alloc hb1.out.size _).alloc (by rw [hz]; have := hb1.out.size; omega) _
  have hFW := Lib.hid ((hF.out.past (.cells #[.string ⟨#[]⟩, .int .i64 0, .int .i64 0, .slice none 0 0] 62)).past (.cells #[.slice none 0 0, .int .i64 here, .int .i64 here, .pointer (some ⟨w1.heap.size, 0, none⟩), .string ⟨#[]⟩, .int .i64 0, .int .i64 0, .slice none 0 0] 64))
  have hFb : F < w1.heap.size + 1 := by have := hF.out.lt; omega
  have hbw : w.heap.size ≤ w1.heap.size + 1 := by have := hb1.out.size; omega
  have d3 := hwb.free 3
  have c3 : _ = some (Value.pointer (some ⟨w1.heap.size, 0, none⟩)) := hwb.cell 3
  replace hwb := Lib.hid hwb
  replace hb1' := Lib.hid hb1'
  replace hbw := Lib.hid hbw
  clear hz
  go_wp2_with (fail)
  generalize hWW : (w1.alloc (.cells #[.string ⟨#[]⟩, .int .i64 0, .int .i64 0, .slice none 0 0] 62)).alloc (.cells #[.slice none 0 0, .int .i64 here, .int .i64 here, .pointer (some ⟨w1.heap.size, 0, none⟩), .string ⟨#[]⟩, .int .i64 0, .int .i64 0, .slice none 0 0] 64) = wq at *
  have hTT : Bk wq w1.heap.size 62 #[.string ⟨#[]⟩, .int .i64 0, .int .i64 0, .slice none 0 0] := by rw [← hWW]; exact (Bk.fresh w1 _ _).past _
  have hRd := rd_of (T := ⟨w1.heap.size, 0, none⟩) (here := here) h.out (by rw [hn.out]) hb1'.out hbw.out hwb.out (fun hX => absurd (List.eq_nil_of_length_eq_zero (by rw [hn.out]; exact hm.out)) hX)
  have t0 := hTT.cell 0
  simp at t0
  have hFq := hFW.out
  have hBq := hb1'.out
  generalize w1.heap.size + 1 = b at *
  replace hRd := Lib.hid hRd
  replace hFq := Lib.hid hFq
  replace hBq := Lib.hid hBq
  replace hTT := Lib.hid hTT
  replace hFb := Lib.hid hFb
  clear d3 hwb hb1' hFW hF hb1 hWW
  clear f0 c3
  refine (hwt.out _).mono ?_
  rintro e w2 ⟨rfl, hw2⟩
  replace hw2 := hw2.symm
  subst hw2
  have hbr := ct_eff r hr8.out hr2.out hRd.out hwk.out
  have hb0 := brn_any r hr8.out hr2.out wq b
  rw [hk.out, hnm.out, hn.out] at hbr
  rw [hnm.out] at hb0
  have f0 := hFq.out.cell 0
  simp at f0
  replace hb0 := Lib.hid hb0
  replace hbr := Lib.hid hbr
  go_wp2_with (fail)
  refine hb0.out.mono ?_
  rintro e w2 ⟨rfl, hw2⟩
  replace hw2 := hw2.symm
  subst hw2
  go_wp2_with (fail)
  refine hbr.out.mono ?_
  clear f0
  rintro e w2 ⟨rfl, v2, m0, m1, m2, m3, X2, hW2, hR2, hL2, hN2, hS2, hO2⟩
  have hF2 : Bk w2 F _ _ := hO2.bk hFq.out (fun hk => hk.elim h.out.out (fun hk => by have := hFb.out; omega))
  have f0 := hF2.cell 0
  simp at f0
  have f1 := hF2.free 0
  have k0 := hW2.bk.cell 0
  simp at k0
  have hX2 : X2.length = n := by have := congrArg List.length hL2; rw [List.length_map, eff_len _ _ _ hwk.out, List.length_map, hn.out] at this; exact this
  rw [hX2] at hR2
  replace hW2 := Lib.hid hW2
  replace hR2 := Lib.hid hR2
  replace hL2 := Lib.hid hL2
  replace hN2 := Lib.hid hN2
  replace hS2 := Lib.hid hS2
  replace hO2 := Lib.hid hO2
  replace hF2 := Lib.hid hF2
  replace hX2 := Lib.hid hX2
  clear hbr
  try replace i16 := i16.out
  go_wp2_with (fail)
  rw [Exit.once_ret]
  go_returns
  rw [hst.out]
  exact done_of (f := 10) hbw.out hBq.out (hO2.out.grow (fun k _ hk => .inr hk)) (World.ownsRow_nil _ _ _ _) hF2.out hR2.out (by rw [hL2.out]; exact hEL.out)
set_option maxHeartbeats 2000000 in
set_option maxRecDepth 100000 in
theorem word_ebad (s : ByteArray) (here : Int) (h : Fl w F own v X) (hs : s.size ≤ maxLen) (r : Nat) (hr : row s = r) (hr2 : r < 17) (A : Option Addr) (c n : Nat) (hv : v = .slice A n c) (hn : X.length = n) (hm : n = 0) (hb0 : wantK r ≠ 0) :
    Calls Try.prog 9 #[.pointer (some ⟨F, 0, none⟩), .string s, .int .i64 here] w fun e w' => Done w w' F own (step (X.map Prod.fst) r here) e := by
  have hX : X = [] := List.eq_nil_of_length_eq_zero (by rw [hn]; exact hm)
  have hst : step (X.map Prod.fst) r here = ⟨10, [], X.map Prod.fst⟩ := by
    unfold step
    rw [if_neg (by omega), if_pos ⟨hb0, by subst hX; exact fun e => hb0 e.symm⟩]
  have hw1 := kn_ne (wantK r) hb0 (wantK_le r)
  have hw2 : ((⟨#[]⟩ : ByteArray).toList == (kn (wantK r)).toList) = false := ba_beq fun e => by rw [← e] at hw1; exact absurd hw1 (by decide +kernel)
  have hne := nm_ne r hr2
  have hkn := known_any s w hs
  rw [hr] at hkn
  have hwt := wants_any r hr2
  obtain ⟨nmr, hnm⟩ : ∃ n, nm r = n := ⟨_, rfl⟩
  rw [hnm] at hne hkn hwt
  have hF := h.bk
  have hl := h.len
  rw [hn] at hl
  subst hv
  replace hF := Lib.hid hF
  replace h := Lib.hid h
  replace hkn := Lib.hid hkn
  replace hnm := Lib.hid hnm
  replace hr := Lib.hid hr
  replace hr2 := Lib.hid hr2
  replace hn := Lib.hid hn
  replace hl := Lib.hid hl
  obtain ⟨wd, hwd⟩ : ∃ wd, kn (wantK r) = wd := ⟨_, rfl⟩
  rw [hwd] at hw1 hw2 hwt
  have hw3 : wd.toList.isEmpty = false := hw1
  replace hwt := Lib.hid hwt
  replace hst := Lib.hid hst
  replace hX := Lib.hid hX
  clear hb0
  have i0 : decide (0 < n) = false := by have := hm; simp; omega
  replace hm := Lib.hid hm
  go_enter Try.func9, Try.ntmps9
  go_wp2_with (fail)
  refine wp_scope_once2 rfl rfl ?_
  intro R hl0 hl1
  replace hl0 := Lib.hid hl0
  replace hl1 := Lib.hid hl1
  go_wp2_with (fail)
  refine hkn.out.mono ?_
  rintro e w1 ⟨rfl, hb1⟩
  replace hF := Lib.hid (hF.out.kept hb1 hF.out.lt)
  replace hb1 := Lib.hid hb1
  have f0 : ((w1.alloc (.cells #[.string ⟨#[]⟩, .int .i64 0, .int .i64 0, .slice none 0 0] 62)).alloc (.cells #[.slice none 0 0, .int .i64 here, .int .i64 here, .pointer (some ⟨w1.heap.size, 0, none⟩), .string ⟨#[]⟩, .int .i64 0, .int .i64 0, .slice none 0 0] 64)).cell? ⟨F, 0, none⟩ = some (.slice A n c) := ((hF.out.past _).past _).cell 0
  have hwb := Bk.fresh (w1.alloc (.cells #[.string ⟨#[]⟩, .int .i64 0, .int .i64 0, .slice none 0 0] 62)) 64 #[.slice none 0 0, .int .i64 here, .int .i64 here, .pointer (some ⟨w1.heap.size, 0, none⟩), .string ⟨#[]⟩, .int .i64 0, .int .i64 0, .slice none 0 0]
  have hz : (w1.alloc (.cells #[.string ⟨#[]⟩, .int .i64 0, .int .i64 0, .slice none 0 0] 62)).heap.size = w1.heap.size + 1 := by simp
  rw [hz] at hwb
  have hb1' : Below w.heap.size w (((w1.alloc (.cells #[.string ⟨#[]⟩, .int .i64 0, .int .i64 0, .slice none 0 0] 62)).alloc (.cells #[.slice none 0 0, .int .i64 here, .int .i64 here, .pointer (some ⟨w1.heap.size, 0, none⟩), .string ⟨#[]⟩, .int .i64 0, .int .i64 0, .slice none 0 0] 64))) := (hb1.out.alloc hb1.out.size _).alloc (by rw [hz]; have := hb1.out.size; omega) _
  have hFW := Lib.hid ((hF.out.past (.cells #[.string ⟨#[]⟩, .int .i64 0, .int .i64 0, .slice none 0 0] 62)).past (.cells #[.slice none 0 0, .int .i64 here, .int .i64 here, .pointer (some ⟨w1.heap.size, 0, none⟩), .string ⟨#[]⟩, .int .i64 0, .int .i64 0, .slice none 0 0] 64))
  have hFb : F < w1.heap.size + 1 := by have := hF.out.lt; omega
  have hbw : w.heap.size ≤ w1.heap.size + 1 := by have := hb1.out.size; omega
  have d3 := hwb.free 3
  have c3 : _ = some (Value.pointer (some ⟨w1.heap.size, 0, none⟩)) := hwb.cell 3
  replace hwb := Lib.hid hwb
  replace hb1' := Lib.hid hb1'
  replace hbw := Lib.hid hbw
  clear hz
  go_wp2_with (fail)
  generalize hWW : (w1.alloc (.cells #[.string ⟨#[]⟩, .int .i64 0, .int .i64 0, .slice none 0 0] 62)).alloc (.cells #[.slice none 0 0, .int .i64 here, .int .i64 here, .pointer (some ⟨w1.heap.size, 0, none⟩), .string ⟨#[]⟩, .int .i64 0, .int .i64 0, .slice none 0 0] 64) = wq at *
  have hTT : Bk wq w1.heap.size 62 #[.string ⟨#[]⟩, .int .i64 0, .int .i64 0, .slice none 0 0] := by rw [← hWW]; exact (Bk.fresh w1 _ _).past _
  have hRd := rd_of (T := ⟨w1.heap.size, 0, none⟩) (here := here) h.out (by rw [hn.out]) hb1'.out hbw.out hwb.out (fun hX => absurd (List.eq_nil_of_length_eq_zero (by rw [hn.out]; exact hm.out)) hX)
  have t0 := hTT.cell 0
  simp at t0
  have hFq := hFW.out
  have hBq := hb1'.out
  generalize w1.heap.size + 1 = b at *
  replace hRd := Lib.hid hRd
  replace hFq := Lib.hid hFq
  replace hBq := Lib.hid hBq
  replace hTT := Lib.hid hTT
  replace hFb := Lib.hid hFb
  clear d3 hwb hb1' hFW hF hb1 hWW
  clear f0 c3
  have a3 := hRd.out.wk.bk.cell 3
  simp at a3
  refine (hwt.out _).mono ?_
  rintro e w2 ⟨rfl, hw2⟩
  replace hw2 := hw2.symm
  subst hw2
  go_wp2_with (fail)
  rw [Exit.once_ret]
  go_returns
  exact done_bel h.out hBq.out hst.out
end
end Go.Proofs.Ytmfffaocmboelaa
