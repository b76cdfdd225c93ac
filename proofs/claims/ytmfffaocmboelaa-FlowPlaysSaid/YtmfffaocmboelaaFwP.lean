import Derived.Test.YtmfffaocmboelaaFwL
namespace Go.Proofs.Ytmfffaocmboelaa
open Go.RowKit
set_option linter.unusedVariables false
set_option linter.unusedSimpArgs false
/-! Word: the words of count, on something that is open -/
section
variable {w w' : World} {F : Nat} {own : Nat → Prop} {v : Value} {X : List (Th × Value)}
set_option maxHeartbeats 4000000 in
set_option maxRecDepth 100000 in
theorem word_c3 (s : ByteArray) (here : Int) (h : Fl w F own v X) (hs : s.size ≤ maxLen) (r : Nat) (hr : row s = r) (hr2 : r < 17) (hr8 : 8 ≤ r) (g c n m : Nat) (hv : v = .slice (some ⟨g, 0, none⟩) n c) (hn : X.length = n) (hm : n = m + 1) (x : Th × Value) (hx : X[m]? = some x) (hb0 : wantK r ≠ 0) (hb2 : x.1.k = wantK r) (hk0 : (eff (X.map Prod.fst) r here).how = 3) :
    Calls Try.prog 9 #[.pointer (some ⟨F, 0, none⟩), .string s, .int .i64 here] w fun e w' => Done w w' F own (step (X.map Prod.fst) r here) e := by
  have hwk : wantK r = 0 ∨ (topT (X.map Prod.fst)).k = wantK r := by rw [topT_at hn hm hx]; first | exact .inl hb0 | exact .inr hb2
  have hst : step (X.map Prod.fst) r here = ⟨0, (eff (X.map Prod.fst) r here).acts ++ pas (topT (X.map Prod.fst)).more (eff (X.map Prod.fst) r here).bh, (X.map Prod.fst).dropLast⟩ := by
    unfold step
    rw [if_neg (by omega), if_neg (fun h => hwk.elim h.1 h.2), hk0]; first | rfl | exact if_neg (by rw [List.length_map, hn]; exact hlt) | exact if_pos (by rw [List.length_map, hn]; exact hlt)
  have hk : (((eff (X.map Prod.fst) r here).how : Nat) : Int) = 3 := by rw [hk0]; rfl
  have hEL : (eff (X.map Prod.fst) r here).how = 0 ∨ (eff (X.map Prod.fst) r here).how = 1 ∨ (eff (X.map Prod.fst) r here).how = 3 → (eff (X.map Prod.fst) r here).L = X.map Prod.fst := eff_same _ _ _
  rw [hk0] at hEL
  replace hEL := hEL (.inr (.inr rfl))
  have hw1 := kn_ne (wantK r) hb0 (wantK_le r)
  have hne := nm_ne r hr2
  have hkn := known_any s w hs
  rw [hr] at hkn
  have hwt := wants_any r hr2
  obtain ⟨nmr, hnm⟩ : ∃ n, nm r = n := ⟨_, rfl⟩
  rw [hnm] at hne hkn hwt
  have hF := h.bk
  have hl := h.len
  rw [hn] at hl
  subst hv
  replace hF := Lib.hid hF
  replace h := Lib.hid h
  replace hkn := Lib.hid hkn
  replace hnm := Lib.hid hnm
  replace hr := Lib.hid hr
  replace hr2 := Lib.hid hr2
  replace hn := Lib.hid hn
  replace hl := Lib.hid hl
  obtain ⟨wd, hwd⟩ : ∃ wd, kn (wantK r) = wd := ⟨_, rfl⟩
  have hw2 : kn x.1.k = wd := by rw [hb2, hwd]
  rw [hwd] at hw1 hwt
  replace hwt := Lib.hid hwt
  replace hw2 := Lib.hid hw2
  clear hb0 hb2
  replace hEL := Lib.hid hEL
  replace hx := Lib.hid hx
  replace hst := Lib.hid hst
  replace hwk := Lib.hid hwk
  replace hk := Lib.hid hk
  replace hk0 := Lib.hid hk0
  replace hr8 := Lib.hid hr8
  have e1 : IntKind.i64.wrap ((n : Int) - 1) = (m : Int) := by have := hl.out; rw [IntKind.wrap_i64]; omega
  have i0 : (0 : Int) < n := by omega
  have j0 : (0 : Int) ≤ m := by omega
  have j1 : (m : Int) < n := by omega
  replace hm := Lib.hid hm
  go_enter Try.func9, Try.ntmps9
  go_wp2_with (fail)
  refine wp_scope_once2 rfl rfl ?_
  intro R hl0 hl1
  replace hl0 := Lib.hid hl0
  replace hl1 := Lib.hid hl1
  go_wp2_with (fail)
  refine hkn.out.mono ?_
  rintro e w1 ⟨rfl, hb1⟩
  replace hF := Lib.hid (hF.out.kept hb1 hF.out.lt)
  replace hb1 := Lib.hid hb1
  have f0 : ((w1.alloc (.cells #[.string ⟨#[]⟩, .int .i64 0, .int .i64 0, .slice none 0 0] 62)).alloc (.cells #[.slice none 0 0, .int .i64 here, .int .i64 here, .pointer (some ⟨w1.heap.size, 0, none⟩), .string ⟨#[]⟩, .int .i64 0, .int .i64 0, .slice none 0 0] 64)).cell? ⟨F, 0, none⟩ = some (.slice (some ⟨g, 0, none⟩) n c) := ((hF.out.past _).past _).cell 0
  have hwb := Bk.fresh (w1.alloc (.cells #[.string ⟨#[]⟩, .int .i64 0, .int .i64 0, .slice none 0 0] 62)) 64 #[.slice none 0 0, .int .i64 here, .int .i64 here, .pointer (some ⟨w1.heap.size, 0, none⟩), .string ⟨#[]⟩, .int .i64 0, .int .i64 0, .slice none 0 0]
  have hz : (w1.alloc (.cells #[.string ⟨#[]⟩, .int .i64 0, .int .i64 0, .slice none 0 0] 62)).heap.size = w1.heap.size + 1 := by simp
  rw [hz] at hwb
  have hb1' : Below w.heap.size w (((w1.alloc (.cells #[.string ⟨#[]⟩, .int .i64 0, .int .i64 0, .slice none 0 0] 62)).alloc (.cells #[.slice none 0 0, .int .i64 here, .int .i64 here, .pointer (some ⟨w1.heap.size, 0, none⟩), .string ⟨#[]⟩, .int .i64 0, .int .i64 0, .slice none 0 0] 64))) := (hb1.out.alloc hb1.out.size _).alloc (by rw [hz]; have := hb1.out.size; omega) _
  have hFW := Lib.hid ((hF.out.past (.cells #[.string ⟨#[]⟩, .int .i64 0, .int .i64 0, .slice none 0 0] 62)).past (.cells #[.slice none 0 0, .int .i64 here, .int .i64 here, .pointer (some ⟨w1.heap.size, 0, none⟩), .string ⟨#[]⟩, .int .i64 0, .int .i64 0, .slice none 0 0] 64))
  have hFb : F < w1.heap.size + 1 := by have := hF.out.lt; omega
  have hbw : w.heap.size ≤ w1.heap.size + 1 := by have := hb1.out.size; omega
  have d3 := hwb.free 3
  have c3 : _ = some (Value.pointer (some ⟨w1.heap.size, 0, none⟩)) := hwb.cell 3
  replace hwb := Lib.hid hwb
  replace hb1' := Lib.hid hb1'
  replace hbw := Lib.hid hbw
  clear hz
  go_wp2_with (fail)
  generalize (w1.alloc (.cells #[.string ⟨#[]⟩, .int .i64 0, .int .i64 0, .slice none 0 0] 62)).alloc (.cells #[.slice none 0 0, .int .i64 here, .int .i64 here, .pointer (some ⟨w1.heap.size, 0, none⟩), .string ⟨#[]⟩, .int .i64 0, .int .i64 0, .slice none 0 0] 64) = W at *
  generalize w1.heap.size + 1 = b at *
  go_still_tail 14, (by kernel_rfl)
  change wpList _ _ _ _ _ W.drew
  have hRd := rd_of (T := ⟨g, m * 4, none⟩) (here := here) h.out (by rw [hn.out]) (W := (W.setCell ⟨b, 3, none⟩ (.pointer (some ⟨g, m * 4, none⟩))).drew) (hb1'.out.setCell hbw.out _).drew hbw.out (hwb.out.put 3 _) (fun _ => ⟨g, rfl, by rw [hn.out]; congr 2; have := hm.out; omega⟩)
  have hFq := (hFW.out.other (p := ⟨b, 3, none⟩) (show F ≠ b by omega) (.pointer (some ⟨g, m * 4, none⟩))).draw
  have hBq := (hb1'.out.setCell (p := ⟨b, 3, none⟩) hbw.out (.pointer (some ⟨g, m * 4, none⟩))).drew
  go_wp2_with (fail)
  obtain ⟨wq, hwq⟩ : ∃ wq, (W.setCell ⟨b, 3, none⟩ (.pointer (some ⟨g, m * 4, none⟩))).drew = wq := ⟨_, rfl⟩
  rw [hwq] at hRd hBq hFq
  try rw [hwq]
  have hTp : Tp wq g (m * 4) (kn x.1.k) x.1.at_ x.1.tgt x.2 := Rws.tp (c := c) (by have := hRd.rw; exact this) m x hx.out
  have t0 := hTp.c0
  have a3 := hRd.wk.bk.cell 3
  simp at a3
  replace hRd := Lib.hid hRd
  replace hFq := Lib.hid hFq
  replace hBq := Lib.hid hBq
  replace hTp := Lib.hid hTp
  replace hFb := Lib.hid hFb
  clear hwq f0 d3 c3 hwb hb1' hFW hF hb1 e1 j0 j1
  refine (hwt.out _).mono ?_
  rintro e w2 ⟨rfl, hw2⟩
  replace hw2 := hw2.symm
  subst hw2
  rw [hw2.out] at t0
  have hbr := ct_eff r hr8.out hr2.out hRd.out hwk.out
  have hb0 := brn_any r hr8.out hr2.out wq b
  rw [hk.out, hnm.out, hn.out] at hbr
  rw [hnm.out] at hb0
  have f0 := hFq.out.cell 0
  simp at f0
  replace hb0 := Lib.hid hb0
  replace hbr := Lib.hid hbr
  go_wp2_with (fail)
  refine hb0.out.mono ?_
  rintro e w2 ⟨rfl, hw2⟩
  replace hw2 := hw2.symm
  subst hw2
  go_wp2_with (fail)
  refine hbr.out.mono ?_
  clear f0
  rintro e w2 ⟨rfl, v2, m0, m1, m2, m3, X2, hW2, hR2, hL2, hN2, hS2, hO2⟩
  have hF2 : Bk w2 F _ _ := hO2.bk hFq.out (fun hk => hk.elim h.out.out (fun hk => by have := hFb.out; omega))
  have f0 := hF2.cell 0
  simp at f0
  have f1 := hF2.free 0
  have k0 := hW2.bk.cell 0
  simp at k0
  have hX2 : X2.length = n := by have := congrArg List.length hL2; rw [List.length_map, eff_len _ _ _ hwk.out, List.length_map, hn.out] at this; exact this
  rw [hX2] at hR2
  replace hW2 := Lib.hid hW2
  replace hR2 := Lib.hid hR2
  replace hL2 := Lib.hid hL2
  replace hN2 := Lib.hid hN2
  replace hS2 := Lib.hid hS2
  replace hO2 := Lib.hid hO2
  replace hF2 := Lib.hid hF2
  replace hX2 := Lib.hid hX2
  clear hbr
  try replace i16 := i16.out
  go_wp2_with (fail)
  obtain ⟨x2, hx2⟩ : ∃ x2, X2[m]? = some x2 := ⟨_, List.getElem?_eq_getElem (by have := hX2.out; have := hm.out; omega)⟩
  have hL3 : X2.map Prod.fst = X.map Prod.fst := by rw [hL2.out]; exact hEL.out
  have hx3 : x2.1 = topT (X.map Prod.fst) := by rw [← hL3]; exact (topT_at hX2.out hm.out hx2).symm
  have hT2 := (show Rws w2 _ (.slice (some ⟨g, 0, none⟩) X2.length c) X2 by rw [hX2.out]; exact hR2.out).tp m x2 hx2
  obtain ⟨Am, cm, hxm⟩ := own_form (hR2.out.more x2 (List.mem_of_getElem? hx2))
  obtain ⟨ml, hml⟩ : ∃ ml, x2.1.more = ml := ⟨_, rfl⟩
  have hPl : Pls w2 Am ml := by rw [← hml]; exact pls_of_row (hxm ▸ hR2.out.more x2 (List.mem_of_getElem? hx2))
  rw [hml] at hxm
  have hPt := patch_any hW2.out.draw Am cm ml hPl (by rw [← hml, hx3]; have := topT_more (X := X) h.out; have := eff_acts (X.map Prod.fst) r here; omega) (eff (X.map Prod.fst) r here).bh
  have q2 := hW2.out.bk.cell 2
  have q3 := hW2.out.bk.cell 3
  have q4 := hT2.c3
  simp at q2 q3
  rw [hxm] at q4
  obtain ⟨bh, hbh⟩ : ∃ bh, (eff (X.map Prod.fst) r here).bh = bh := ⟨_, rfl⟩
  rw [hbh] at hPt q2
  obtain ⟨ac, hac⟩ : ∃ ac, (eff (X.map Prod.fst) r here).acts = ac := ⟨_, rfl⟩
  rw [hac] at hPt
  obtain ⟨lm, hlm⟩ : ∃ lm, ml.length = lm := ⟨_, rfl⟩
  rw [hlm] at hPt q4
  have hgb : g < b := hRd.out.own g (hRd.out.rw.own1 g rfl)
  replace hPt := Lib.hid hPt
  replace hT2 := Lib.hid hT2
  replace hPl := Lib.hid hPl
  replace hbh := Lib.hid hbh
  replace hac := Lib.hid hac
  replace hlm := Lib.hid hlm
  replace hml := Lib.hid hml
  replace hxm := Lib.hid hxm
  replace hx2 := Lib.hid hx2
  replace hx3 := Lib.hid hx3
  replace hL3 := Lib.hid hL3
  replace hgb := Lib.hid hgb
  clear f0 f1 k0
  go_region_held3 (fun w' => w'.cell? ⟨b, 2, none⟩ = some (.int .i64 bh) ∧ w'.cell? ⟨b, 3, none⟩ = some (.pointer (some ⟨g, m * 4, none⟩)) ∧ w'.cell? ⟨g, m * 4 + 3, none⟩ = some (.slice Am lm cm)) (go_keep)
    ((go_at_call 21; (with_reducible refine Calls.mono hPt.out ?_); rintro e w1_ ⟨rfl, v3, hW3, hB3⟩; have kS : w1_.cell? ⟨b, 2, none⟩ = some (.int .i64 bh) ∧ w1_.cell? ⟨b, 3, none⟩ = some (.pointer (some ⟨g, m * 4, none⟩)) ∧ w1_.cell? ⟨g, m * 4 + 3, none⟩ = some (.slice Am lm cm) := ⟨hW3.bk.cell 2, hW3.bk.cell 3, ((hB3.cell (p := ⟨g, m * 4 + 3, none⟩) hgb.out).trans (hT2.out.c3)).trans (by rw [hxm.out, hlm.out])⟩; replace hW3 := Lib.hid hW3; replace hB3 := Lib.hid hB3))
  all_goals (
    obtain ⟨w3, hw3⟩ : ∃ w3, w1_ = w3 := ⟨_, rfl⟩
    rw [hw3] at hW3 hB3 ⊢
    clear hw3 kS q2 q3 q4
    have hF3 := hF2.out.draw.kept hB3.out hFb.out
    have hR0 := hS2.out (.inr hk0.out)
    rw [hX2.out] at hR0
    have hR3 := ((show Rws w2.drew own _ _ from hR0.frame (s := fun _ => False) ⟨rfl, rfl, rfl, Nat.le_refl _, fun _ _ _ => rfl⟩ (fun _ _ h => h)).frame (Onl.of_below (s := fun k => b ≤ k) hB3.out (fun k _ hk => by omega)) (fun k hk => by have := hRd.out.own k hk; omega)).mono (own' := fun k => own k ∨ b ≤ k) (fun _ h => .inl h)
    have hO3 := (hO2.out.draw).trans (bel_onl (own := own) hB3.out)
    obtain ⟨hF4, hW4, Y4, hR4, hL4, hO4⟩ := pop_facts hW3.out hR3 hL3.out hF3 hFb.out h.out.out hX2.out hm.out
    have f0 := hF3.cell 0
    simp at f0
    have f1 := hF3.free 0
    have e1 : IntKind.i64.wrap ((n : Int) - 1) = (m : Int) := by have := hl.out; have := hm.out; rw [IntKind.wrap_i64]; omega
    have j0 : (0 : Int) ≤ m := by omega
    have j2 : (m : Int) ≤ c := by have := (hR2.out.form (by have := hX2.out; have := hm.out; omega)); obtain ⟨g1, c1, e, _, _, hc⟩ := this; injection e with _ _ e; have := hX2.out; have := hm.out; omega
    have j3 : m ≤ c := by omega
    replace hF3 := Lib.hid hF3
    replace hR3 := Lib.hid hR3
    replace hR0 := Lib.hid hR0
    replace hO3 := Lib.hid hO3
    replace hF4 := Lib.hid hF4
    replace hW4 := Lib.hid hW4
    replace hR4 := Lib.hid hR4
    replace hL4 := Lib.hid hL4
    replace hO4 := Lib.hid hO4)
  all_goals (go_wp2_with (fail))
  all_goals go_step3
  all_goals (
    refine ⟨_, hl1.out, ?_⟩
    go_wp2_with (fail))
  all_goals (go_still_tail 14, (by kernel_rfl))
  all_goals (change wpList _ _ _ _ _ (World.drew _))
  all_goals (go_wp2_with (fail))
  all_goals (
    obtain ⟨w4, hw4⟩ : ∃ w4, (w3.setCell ⟨F, 0, none⟩ (.slice (some ⟨g, 0, none⟩) m c)).drew = w4 := ⟨_, rfl⟩
    rw [hw4] at hF4 hW4 hR4 hO4
    rw [hw4]
    have k0 := hW4.out.bk.cell 0
    simp at k0
    clear hw4 e1 j0 j2 j3
    go_step3
    go_wp2_with (fail)
    rw [Exit.noGoto_ret]
    go_returns
    rw [hst.out, hbh.out, hac.out, ← hx3.out, hml.out]
    exact done_of (f := 0) hbw.out hBq.out ((hO3.out.grow (fun k _ hk => .inr hk)).trans (hO4.out.grow (fun k _ hk => .inl hk))) hW4.out.row hF4.out hR4.out hL4.out)
end
end Go.Proofs.Ytmfffaocmboelaa
