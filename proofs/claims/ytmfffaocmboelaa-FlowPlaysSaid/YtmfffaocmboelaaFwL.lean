import Derived.Test.YtmfffaocmboelaaFwK
namespace Go.Proofs.Ytmfffaocmboelaa
open Go.RowKit
set_option linter.unusedVariables false
set_option linter.unusedSimpArgs false
/-! Word: what is refused ahead; what the ends have in common -/
section
variable {w w' wq : World} {F b : Nat} {own : Nat → Prop} {v : Value} {X : List (Th × Value)}
theorem ba_beq {a b : ByteArray} (h : ¬ a = b) : (a.toList == b.toList) = false := by
  rw [beq_eq_false_iff_ne]
  intro e
  rw [ByteArray.toList_eq, ByteArray.toList_eq] at e
  exact h (ByteArray.ext (Array.ext' e))
theorem done_of {f : Int} {acts : List Ac} {L : List Th} {w3 : World} {v2 v' : Value} {X' : List (Th × Value)} (hbw : w.heap.size ≤ b) (hB : Below w.heap.size w wq) (hO : Onl (fun k => k = F ∨ own k ∨ b ≤ k) wq w3) (hrow : w3.ownsRow (b + 1) 36 4 v2 acts.length (actC acts)) (hF : Bk w3 F 57 #[v']) (hR : Rws w3 (fun k => own k ∨ b ≤ k) v' X') (hX : X'.map Prod.fst = L) :
    Done w w3 F own ⟨f, acts, L⟩ (.returned (.tuple #[v2, .int .i64 f])) :=
  ⟨v2, v', X', rfl, own_base hrow (by omega), hF, hR.mono (fun k hk => hk.elim .inl (fun h => .inr (by omega))), hX,
    (Onl.of_below (s := fun k => k = F ∨ own k ∨ w.heap.size ≤ k) hB (fun k hk _ => hk)).trans (hO.grow (fun k _ hk => hk.elim .inl (fun h => .inr (h.elim .inl (fun h => .inr (by omega))))))⟩
theorem eff_len (L : List Th) (r : Nat) (here : Int) (hw : wantK r = 0 ∨ (topT L).k = wantK r) : (eff L r here).L.length = L.length := by
  have hL : wantK r ≠ 0 → L.dropLast.length + 1 = L.length := fun h0 => by
    have h1 := hw.resolve_left h0
    have : L ≠ [] := by rintro rfl; exact h0 h1.symm
    have := List.length_pos_iff.2 this
    rw [List.length_dropLast]; omega
  unfold eff
  split <;> try rfl
  · simp only [List.length_append, List.length_singleton]; exact hL (by decide)
  · simp only [List.length_append, List.length_singleton]; exact hL (by decide)
  · split <;> simp
  · simp
theorem pop_facts {w2 : World} {v2 m0 m1 m2 m3 : Value} {X2 : List (Th × Value)} {acts : List Ac} {here bh : Int} {T : Addr} {L : List Th} {g c n m : Nat} (hW : Wk w2 b v2 acts here bh T m0 m1 m2 m3) (hR : Rws w2 (fun k => own k ∨ b ≤ k) (.slice (some ⟨g, 0, none⟩) n c) X2) (hL : X2.map Prod.fst = L) (hF : Bk w2 F 57 #[.slice (some ⟨g, 0, none⟩) n c]) (hFb : F < b) (hFo : ¬ own F) (hX : X2.length = n) (hm : n = m + 1) :
    Bk (w2.setCell ⟨F, 0, none⟩ (.slice (some ⟨g, 0, none⟩) m c)).drew F 57 #[.slice (some ⟨g, 0, none⟩) m c] ∧ Wk (w2.setCell ⟨F, 0, none⟩ (.slice (some ⟨g, 0, none⟩) m c)).drew b v2 acts here bh T m0 m1 m2 m3 ∧ ∃ Y2, Rws (w2.setCell ⟨F, 0, none⟩ (.slice (some ⟨g, 0, none⟩) m c)).drew (fun k => own k ∨ b ≤ k) (.slice (some ⟨g, 0, none⟩) m c) Y2 ∧ Y2.map Prod.fst = L.dropLast ∧ Onl (fun k => k = F) w2 (w2.setCell ⟨F, 0, none⟩ (.slice (some ⟨g, 0, none⟩) m c)).drew := by
  have hO : Onl (fun k => k = F) w2 (w2.setCell ⟨F, 0, none⟩ (.slice (some ⟨g, 0, none⟩) m c)).drew := ((Onl.refl (fun k => k = F) w2).put (p := ⟨F, 0, none⟩) (.inl rfl) _).draw
  have hne : X2 ≠ [] := by rintro rfl; simp at hX; omega
  obtain ⟨Y, x, rfl⟩ : ∃ Y x, X2 = Y ++ [x] := ⟨X2.dropLast, X2.getLast hne, (List.dropLast_concat_getLast hne).symm⟩
  have hY : Y.length = m := by simp at hX; omega
  subst hY
  have hn : n = (Y ++ [x]).length := hX.symm
  subst hn
  refine ⟨(hF.put 0 _).draw, hW.onl hO (fun k hk => by omega), Y, hR.pop.frame hO (fun k hk e => by subst e; exact hk.elim hFo (fun h => by omega)), ?_, hO⟩
  rw [← hL]; simp
theorem push_facts {w4 : World} {v2 V0 : Value} {XX : List (Th × Value)} {acts : List Ac} {n : Nat} {A' : Option Addr} {c' : Nat} (hF : Bk w4 F 57 #[V0]) (hrow : w4.ownsRow (b + 1) 36 4 v2 acts.length (actC acts)) (hR : Rws w4 (fun k => own k ∨ b ≤ k) (.slice A' XX.length c') XX) (hn : XX.length = n) (hFb : F < b) (hFo : ¬ own F) :
    Bk (w4.setCell ⟨F, 0, none⟩ (.slice A' n c')) F 57 #[.slice A' n c'] ∧ (w4.setCell ⟨F, 0, none⟩ (.slice A' n c')).ownsRow (b + 1) 36 4 v2 acts.length (actC acts) ∧ Rws (w4.setCell ⟨F, 0, none⟩ (.slice A' n c')) (fun k => own k ∨ b ≤ k) (.slice A' n c') XX ∧ Onl (fun k => k = F) w4 (w4.setCell ⟨F, 0, none⟩ (.slice A' n c')) := by
  have hO : Onl (fun k => k = F) w4 (w4.setCell ⟨F, 0, none⟩ (.slice A' n c')) := (Onl.refl (fun k => k = F) w4).put (p := ⟨F, 0, none⟩) (.inl rfl) _
  subst hn
  exact ⟨hF.put 0 _, hO.row hrow (fun k hk e => by have := own_ge hrow k hk; omega), hR.frame hO (fun k hk e => by subst e; exact hk.elim hFo (fun h => by omega)), hO⟩
theorem eff_same (L : List Th) (r : Nat) (here : Int) (h : (eff L r here).how = 0 ∨ (eff L r here).how = 1 ∨ (eff L r here).how = 3) : (eff L r here).L = L := by
  unfold eff at h ⊢
  split at h <;> first | rfl | (exfalso; revert h; simp; done) | skip
  · split at h
    · rename_i hd; simp only [hd]
    · exfalso; revert h; simp
theorem eff_acts (L : List Th) (r : Nat) (here : Int) : (eff L r here).acts.length ≤ 4 := by
  unfold eff
  split <;> first | (simp; done) | skip
  split <;> simp
theorem pls_of_row {w : World} {A : Option Addr} {c : Nat} {vs : List Int} (h : w.ownsRow 0 3 1 (.slice A vs.length c) vs.length (i64s vs)) : Pls w A vs := by
  by_cases hv : vs = []
  · exact .inl hv
  · obtain ⟨g, cap, cur, e, _, hk, hc, _⟩ := own_block h (List.length_pos_iff.2 hv)
    injection e with e1 _ _
    exact .inr ⟨g, cur, e1, hk, fun i hi => hc i _ (by simp [i64s, List.getElem?_eq_getElem hi])⟩
theorem topT_more (h : Fl w F own v X) : (topT (X.map Prod.fst)).more.length ≤ 50000 := by
  by_cases hX : X = []
  · subst hX; exact Nat.zero_le _
  · obtain ⟨Y, x, rfl⟩ : ∃ Y x, X = Y ++ [x] := ⟨X.dropLast, X.getLast hX, (List.dropLast_concat_getLast hX).symm⟩
    rw [topT_push]
    exact h.more x (by simp)
set_option maxHeartbeats 2000000 in
set_option maxRecDepth 100000 in
theorem word_bad (s : ByteArray) (here : Int) (h : Fl w F own v X) (hs : s.size ≤ maxLen) (r : Nat) (hr : row s = r) (hr2 : r < 17) (g c n m : Nat) (hv : v = .slice (some ⟨g, 0, none⟩) n c) (hn : X.length = n) (hm : n = m + 1) (x : Th × Value) (hx : X[m]? = some x) (hb0 : wantK r ≠ 0) (hb2 : x.1.k ≠ wantK r) :
    Calls Try.prog 9 #[.pointer (some ⟨F, 0, none⟩), .string s, .int .i64 here] w fun e w' => Done w w' F own (step (X.map Prod.fst) r here) e := by
  have hst : step (X.map Prod.fst) r here = ⟨10, [], X.map Prod.fst⟩ := by
    unfold step
    rw [if_neg (by omega), if_pos ⟨hb0, by rw [topT_at hn hm hx]; exact hb2⟩]
  have hw1 := kn_ne (wantK r) hb0 (wantK_le r)
  have hw2 : ((kn x.1.k).toList == (kn (wantK r)).toList) = false := ba_beq fun e => hb2 (kn_inj _ _ hb0 (wantK_le r) e)
  have hne := nm_ne r hr2
  have hkn := known_any s w hs
  rw [hr] at hkn
  have hwt := wants_any r hr2
  obtain ⟨nmr, hnm⟩ : ∃ n, nm r = n := ⟨_, rfl⟩
  rw [hnm] at hne hkn hwt
  have hF := h.bk
  have hl := h.len
  rw [hn] at hl
  subst hv
  replace hF := Lib.hid hF
  replace h := Lib.hid h
  replace hkn := Lib.hid hkn
  replace hnm := Lib.hid hnm
  replace hr := Lib.hid hr
  replace hr2 := Lib.hid hr2
  replace hn := Lib.hid hn
  replace hl := Lib.hid hl
  obtain ⟨wd, hwd⟩ : ∃ wd, kn (wantK r) = wd := ⟨_, rfl⟩
  rw [hwd] at hw1 hw2 hwt
  replace hwt := Lib.hid hwt
  replace hx := Lib.hid hx
  replace hst := Lib.hid hst
  clear hb0 hb2
  have e1 : IntKind.i64.wrap ((n : Int) - 1) = (m : Int) := by have := hl.out; rw [IntKind.wrap_i64]; omega
  have i0 : (0 : Int) < n := by omega
  have j0 : (0 : Int) ≤ m := by omega
  have j1 : (m : Int) < n := by omega
  replace hm := Lib.hid hm
  go_enter Try.func9, Try.ntmps9
  go_wp2_with (fail)
  refine wp_scope_once2 rfl rfl ?_
  intro R hl0 hl1
  replace hl0 := Lib.hid hl0
  replace hl1 := Lib.hid hl1
  go_wp2_with (fail)
  refine hkn.out.mono ?_
  rintro e w1 ⟨rfl, hb1⟩
  replace hF := Lib.hid (hF.out.kept hb1 hF.out.lt)
  replace hb1 := Lib.hid hb1
  have f0 : ((w1.alloc (.cells #[.string ⟨#[]⟩, .int .i64 0, .int .i64 0, .slice none 0 0] 62)).alloc (.cells #[.slice none 0 0, .int .i64 here, .int .i64 here, .pointer (some ⟨w1.heap.size, 0, none⟩), .string ⟨#[]⟩, .int .i64 0, .int .i64 0, .slice none 0 0] 64)).cell? ⟨F, 0, none⟩ = some (.slice (some ⟨g, 0, none⟩) n c) := ((hF.out.past _).past _).cell 0
  have hwb := Bk.fresh (w1.alloc (.cells #[.string ⟨#[]⟩, .int .i64 0, .int .i64 0, .slice none 0 0] 62)) 64 #[.slice none 0 0, .int .i64 here, .int .i64 here, .pointer (some ⟨w1.heap.size, 0, none⟩), .string ⟨#[]⟩, .int .i64 0, .int .i64 0, .slice none 0 0]
  have hz : (w1.alloc (.cells #[.string ⟨#[]⟩, .int .i64 0, .int .i64 0, .slice none 0 0] 62)).heap.size = w1.heap.size + 1 := by simp
  rw [hz] at hwb
  have hb1' : Below w.heap.size w (((w1.alloc (.cells #[.string ⟨#[]⟩, .int .i64 0, .int .i64 0, .slice none 0 0] 62)).alloc (.cells #[.slice none 0 0, .int .i64 here, .int .i64 here, .pointer (some ⟨w1.heap.size, 0, none⟩), .string ⟨#[]⟩, .int .i64 0, .int .i64 0, .slice none 0 0] 64))) := (hb1.out.alloc hb1.out.size _).alloc (by rw [hz]; have := hb1.out.size; omega) _
  have hFW := Lib.hid ((hF.out.past (.cells #[.string ⟨#[]⟩, .int .i64 0, .int .i64 0, .slice none 0 0] 62)).past (.cells #[.slice none 0 0, .int .i64 here, .int .i64 here, .pointer (some ⟨w1.heap.size, 0, none⟩), .string ⟨#[]⟩, .int .i64 0, .int .i64 0, .slice none 0 0] 64))
  have hFb : F < w1.heap.size + 1 := by have := hF.out.lt; omega
  have hbw : w.heap.size ≤ w1.heap.size + 1 := by have := hb1.out.size; omega
  have d3 := hwb.free 3
  have c3 : _ = some (Value.pointer (some ⟨w1.heap.size, 0, none⟩)) := hwb.cell 3
  replace hwb := Lib.hid hwb
  replace hb1' := Lib.hid hb1'
  replace hbw := Lib.hid hbw
  clear hz
  go_wp2_with (fail)
  generalize (w1.alloc (.cells #[.string ⟨#[]⟩, .int .i64 0, .int .i64 0, .slice none 0 0] 62)).alloc (.cells #[.slice none 0 0, .int .i64 here, .int .i64 here, .pointer (some ⟨w1.heap.size, 0, none⟩), .string ⟨#[]⟩, .int .i64 0, .int .i64 0, .slice none 0 0] 64) = W at *
  generalize w1.heap.size + 1 = b at *
  go_still_tail 14, (by kernel_rfl)
  change wpList _ _ _ _ _ W.drew
  have hRd := rd_of (T := ⟨g, m * 4, none⟩) (here := here) h.out (by rw [hn.out]) (W := (W.setCell ⟨b, 3, none⟩ (.pointer (some ⟨g, m * 4, none⟩))).drew) (hb1'.out.setCell hbw.out _).drew hbw.out (hwb.out.put 3 _) (fun _ => ⟨g, rfl, by rw [hn.out]; congr 2; have := hm.out; omega⟩)
  have hFq := (hFW.out.other (p := ⟨b, 3, none⟩) (show F ≠ b by omega) (.pointer (some ⟨g, m * 4, none⟩))).draw
  have hBq := (hb1'.out.setCell (p := ⟨b, 3, none⟩) hbw.out (.pointer (some ⟨g, m * 4, none⟩))).drew
  go_wp2_with (fail)
  obtain ⟨wq, hwq⟩ : ∃ wq, (W.setCell ⟨b, 3, none⟩ (.pointer (some ⟨g, m * 4, none⟩))).drew = wq := ⟨_, rfl⟩
  rw [hwq] at hRd hBq hFq
  try rw [hwq]
  have hTp : Tp wq g (m * 4) (kn x.1.k) x.1.at_ x.1.tgt x.2 := Rws.tp (c := c) (by have := hRd.rw; exact this) m x hx.out
  have t0 := hTp.c0
  have a3 := hRd.wk.bk.cell 3
  simp at a3
  replace hRd := Lib.hid hRd
  replace hFq := Lib.hid hFq
  replace hBq := Lib.hid hBq
  replace hTp := Lib.hid hTp
  replace hFb := Lib.hid hFb
  clear hwq f0 d3 c3 hwb hb1' hFW hF hb1 e1 j0 j1
  refine (hwt.out _).mono ?_
  rintro e w2 ⟨rfl, hw2⟩
  replace hw2 := hw2.symm
  subst hw2
  go_wp2_with (fail)
  rw [Exit.once_ret]
  go_returns
  exact done_bel h.out hBq.out hst.out
end
end Go.Proofs.Ytmfffaocmboelaa
