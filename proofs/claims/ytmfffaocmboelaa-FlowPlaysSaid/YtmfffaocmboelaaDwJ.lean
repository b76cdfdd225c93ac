import Derived.Test.YtmfffaocmboelaaDwH
namespace Go.Proofs.Ytmfffaocmboelaa
open Go.RowKit
set_option linter.unusedVariables false
set_option linter.unusedSimpArgs false
/-! the document's Word: rows that want something on top -/
section
variable {w w' : World} {F : Nat} {own : Nat → Prop} {v : Value} {X : List (Th × Value)}
set_option maxHeartbeats 2000000 in
set_option maxRecDepth 100000 in
theorem dyes_14 (s : ByteArray) (here : Int) (h : Dl w F own v X) (hs : s.size ≤ maxLen) (hr : row s = 14) (hh : -9223372036854775808 ≤ here ∧ here ≤ 9223372036854775807) (hb : (topT (X.map Prod.fst)).k = 5) :
    Calls Try.prog 15 #[.pointer (some ⟨F, 0, none⟩), .string s, .int .i64 here] w fun e w' => Ddone w w' F own (Go.Proofs.Ytmfffaocmboelaa.step (X.map Prod.fst) (row s) here) e := by
  have hrr := rrow_any s w hs
  rw [hr, if_neg (by decide), show ((14 : Nat) : Int) = 14 from rfl] at hrr
  rw [hr]
  obtain ⟨m, hm0⟩ : ∃ m, X.length = m + 1 := by
    cases hX : X.length with
    | zero => rw [List.eq_nil_of_length_eq_zero hX] at hb; exact absurd hb (by decide)
    | succ m => exact ⟨m, rfl⟩
  obtain ⟨x, hx⟩ : ∃ x, X[m]? = some x := ⟨_, List.getElem?_eq_getElem (by omega)⟩
  have htx := topT_at rfl hm0 hx
  rw [htx] at hb
  obtain ⟨g, c0, hvg, _⟩ := h.rw.form (by omega)
  have htop : ∀ W, Dl W F own v X → Calls Try.prog 25 #[.pointer (some ⟨F, 0, none⟩), .int .i64 5] W fun e w' => e = .returned (.tuple #[dagg x, .bool true]) ∧ Below W.heap.size W w' := fun W hW => by
    have := rtop_yes hW hvg rfl hm0 hx
    rw [hb] at this
    exact this
  obtain ⟨Am, cm, hxm⟩ := own_form (h.rw.more x (List.mem_of_getElem? hx))
  unfold dagg at htop
  rw [hxm] at htop
  replace htop := Lib.hid htop
  replace hb := Lib.hid hb
  replace htx := Lib.hid htx
  replace hx := Lib.hid hx
  replace hm0 := Lib.hid hm0
  replace hxm := Lib.hid hxm
  replace hvg := Lib.hid hvg
  obtain ⟨A, c, hv⟩ := own_form h.rw.row
  obtain ⟨n, hn⟩ : ∃ n, X.length = n := ⟨_, rfl⟩
  rw [hn] at hv
  have hln := h.len
  rw [hn] at hln
  have i16 : (n : Int) ≤ 16 := by omega
  subst hv
  replace hrr := Lib.hid hrr
  replace h := Lib.hid h
  replace hn := Lib.hid hn
  replace hh := Lib.hid hh
  have hvg' := hvg.out
  injection hvg' with eA en ec
  clear en ec
  subst eA
  clear hvg
  have hm1 : n = m + 1 := by rw [← hn.out]; exact hm0.out
  have e1 : IntKind.i64.wrap ((n : Int) - 1) = (m : Int) := by rw [IntKind.wrap_i64]; omega
  have m0 : (0 : Int) ≤ m := by omega
  replace hm1 := Lib.hid hm1
  go_enter Try.func15, Try.ntmps15
  go_wp2_with (fail)
  refine hrr.out.mono ?_
  rintro e w1 ⟨rfl, hb1⟩
  have hw1z := Lib.hid hb1.size
  have hB1 : Below w.heap.size w (w1.alloc (.cells #[.int .i64 0, .int .i64 0, .int .i64 0, .slice none 0 0] 70)) := hb1.alloc hb1.size _
  have hX9 := Bk.fresh w1 70 #[.int .i64 0, .int .i64 0, .int .i64 0, .slice none 0 0]
  go_wp2_with (fail)
  obtain ⟨b9, hb9⟩ : ∃ b, w1.heap.size = b := ⟨_, rfl⟩
  obtain ⟨W, hW⟩ : ∃ W, w1.alloc (.cells #[.int .i64 0, .int .i64 0, .int .i64 0, .slice none 0 0] 70) = W := ⟨_, rfl⟩
  rw [hb9, hW] at hX9
  rw [hW] at hB1 ⊢
  try rw [hb9]
  clear hW hb1
  have hD := h.out.kept hB1
  have f0 := hD.bk.cell 0
  simp at f0
  replace hD := Lib.hid hD
  replace hB1 := Lib.hid hB1
  replace hX9 := Lib.hid hX9
  replace hb9 := Lib.hid hb9
  refine (rwants_14 W).mono ?_
  rintro e w2 ⟨rfl, hw2⟩
  replace hw2 := hw2.symm
  subst hw2
  go_wp2_with (fail)
  refine (htop.out _ hD.out).mono ?_
  rintro e w3 ⟨rfl, hb3⟩
  have hX3 := (hX9.out.kept hb3 hX9.out.lt).past (.cells #[.int .i64 (x.1.k : Int), .int .i64 x.1.at_, .int .i64 x.1.tgt, .slice Am x.1.more.length cm] 70)
  have x0 := hX3.cell 0
  have x1 := hX3.cell 1
  have x2 := hX3.cell 2
  have x3 := hX3.cell 3
  have z0 := hX3.free 0
  have z1 := hX3.free 1
  have z2 := hX3.free 2
  have z3 := hX3.free 3
  simp at x0 x1 x2 x3
  replace hX3 := Lib.hid hX3
  clear f0
  go_wp2_with (fail)
  have hB4 := hB1.out.trans (((hb3.alloc hb3.size (.cells #[.int .i64 (x.1.k : Int), .int .i64 x.1.at_, .int .i64 x.1.tgt, .slice Am x.1.more.length cm] 70))).mono hB1.out.size)
  have hb9w : w.heap.size ≤ b9 := by rw [← hb9.out]; exact hw1z.out
  have hX4 := (((hX3.out.put 0 (.int .i64 (x.1.k : Int))).put 1 (.int .i64 x.1.at_)).put 2 (.int .i64 x.1.tgt)).put 3 (.slice Am x.1.more.length cm)
  have hB5 := (((hB4.setCell (p := ⟨b9, 0, none⟩) hb9w (.int .i64 (x.1.k : Int))).setCell (p := ⟨b9, 1, none⟩) hb9w (.int .i64 x.1.at_)).setCell (p := ⟨b9, 2, none⟩) hb9w (.int .i64 x.1.tgt)).setCell (p := ⟨b9, 3, none⟩) hb9w (.slice Am x.1.more.length cm)
  obtain ⟨W4, hW4⟩ : ∃ W4, (((((w3.alloc (.cells #[.int .i64 (x.1.k : Int), .int .i64 x.1.at_, .int .i64 x.1.tgt, .slice Am x.1.more.length cm] 70)).setCell ⟨b9, 0, none⟩ (.int .i64 (x.1.k : Int))).setCell ⟨b9, 1, none⟩ (.int .i64 x.1.at_)).setCell ⟨b9, 2, none⟩ (.int .i64 x.1.tgt)).setCell ⟨b9, 3, none⟩ (.slice Am x.1.more.length cm)) = W4 := ⟨_, rfl⟩
  rw [hW4] at hX4 hB5 ⊢
  simp at hX4
  clear hW4 x0 x1 x2 x3 z0 z1 z2 z3 hX3 hB4 hb3 hD hB1 hX9
  have hD := h.out.kept hB5
  have hB1 := Lib.hid hB5
  have hX9 := Lib.hid hX4
  have f0 := hD.bk.cell 0
  simp at f0
  replace hD := Lib.hid hD
  clear hB5 hX4
  go_loopw [13, 14] (fun x13 x14 wr => ∃ j : Nat, Hid (x13 = .int .i64 (lastV (X.map Prod.fst) j)) ∧ x14 = .int .i64 j ∧ j ≤ n ∧ wr = W4) (fun _ x14 _ => n - (intOf x14).toNat)
  case atStart => exact ⟨0, rfl, rfl, by omega, rfl⟩
  case round =>
    obtain ⟨j, hx13, rfl, hj, rfl⟩ := hrel
    have j0 : (0 : Int) ≤ j := by omega
    by_cases hjn : j < n
    · have hjz := hjn
      have j1 : (j : Int) < n := by omega
      obtain ⟨xj, hxj⟩ : ∃ x, X[j]? = some x := ⟨_, List.getElem?_eq_getElem (by have := hn.out; omega)⟩
      have hTd := Rwd.tp (c := c) (by have := hD.out.rw; rw [← hn.out] at this; exact this) j xj hxj
      have t0 := hTd.c0
      have hget := getD_th X j xj hxj
      replace hTd := Lib.hid hTd
      replace hxj := Lib.hid hxj
      by_cases hk : xj.1.k = 4
      · have z : ((xj.1.k : Int) == 4) = true := by simp [hk]
        have hlv := lastV_yes (X.map Prod.fst) j (by rw [hget]; exact hk)
        obtain ⟨kk, hkk⟩ : ∃ kk : Int, (xj.1.k : Int) = kk := ⟨_, rfl⟩
        rw [hkk] at z t0
        replace hkk := Lib.hid hkk
        replace hlv := Lib.hid hlv
        clear hk hget
        go_wp2_with (fail)
        exact ⟨⟨j + 1, Lib.hid (by rw [hlv.out]), rfl, by omega, (by first | trivial | rfl)⟩, by simp [intOf]; omega⟩
      · have z : ((xj.1.k : Int) == 4) = false := by simp; omega
        have hlv := lastV_no (X.map Prod.fst) j (by rw [hget]; exact hk)
        obtain ⟨kk, hkk⟩ : ∃ kk : Int, (xj.1.k : Int) = kk := ⟨_, rfl⟩
        rw [hkk] at z t0
        replace hkk := Lib.hid hkk
        replace hlv := Lib.hid hlv
        clear hk hget
        go_wp2_with (fail)
        exact ⟨⟨j + 1, Lib.hid (by rw [hlv.out]; exact hx13.out), rfl, by omega, (by first | trivial | rfl)⟩, by simp [intOf]; omega⟩
    · have e : j = n := by omega
      subst e
      have j1 : ¬ (j : Int) < j := by omega
      clear hjn
      by_cases h16 : j = 16
      · subst h16
        go_wp2_with (fail)
        go_returns
        exact ddone_bel h.out hB1.out (by unfold Go.Proofs.Ytmfffaocmboelaa.step; rw [if_neg (by decide), if_neg (by rw [htx.out]; exact fun h => h.2 hb.out)]; simp only [eff]; rw [if_pos (by rw [List.length_map, hn.out])])
      have z16 : ¬ (16 : Int) ≤ j := by omega
      go_wp2_with (fail)
      obtain ⟨wb, hwb⟩ : ∃ wb, wr.alloc (.cells #[.int .i64 24, .int .i64 58, .int .i64 5, .int .i64 22] 3) = wb := ⟨_, rfl⟩
      have hK8 := Bk.fresh wr 3 #[.int .i64 24, .int .i64 58, .int .i64 5, .int .i64 22]
      have hBw : Below wr.heap.size wr (wr.alloc (.cells #[.int .i64 24, .int .i64 58, .int .i64 5, .int .i64 22] 3)) := (Below.refl _ _).alloc (Nat.le_refl _) _
      rw [hwb] at hK8 hBw
      have hB2 := hB1.out.trans (hBw.mono hB1.out.size)
      have hD2 := hD.out.kept hBw
      have hX2 := hX9.out.kept hBw hX9.out.lt
      refine (rlays_14 wr).mono ?_
      rintro e w2 ⟨rfl, hw2⟩
      rw [hwb] at hw2
      replace hw2 := hw2.symm
      subst hw2
      obtain ⟨b8, hb8⟩ : ∃ b, wr.heap.size = b := ⟨_, rfl⟩
      rw [hb8] at hK8 ⊢
      obtain ⟨ol, hol⟩ : ∃ ol : List Int, [24, 58, 5, 22] = ol := ⟨_, rfl⟩
      have hol0 : ol.length = 4 := by rw [← hol]; rfl
      rw [show (#[.int .i64 24, .int .i64 58, .int .i64 5, .int .i64 22] : Array Value) = (i64s [24, 58, 5, 22]).toArray from rfl, hol] at hK8
      replace hK8 := Lib.hid hK8
      replace hB2 := Lib.hid hB2
      replace hD2 := Lib.hid hD2
      replace hX2 := Lib.hid hX2
      replace hol := Lib.hid hol
      replace hol0 := Lib.hid hol0
      clear hBw hwb f0 hb8
      go_wp2_with (fail)
      go_loopw [16, 18] (fun x16 x18 wi => ∃ (k : Nat) (A4 : Option Addr) (c4 : Nat), x16 = .slice A4 k c4 ∧ x18 = .int .i64 k ∧ k ≤ 4 ∧ wi.ownsRow wb.heap.size 54 4 (.slice A4 k c4) k (actC (layO here 0 (ol.take k))) ∧ Below wb.heap.size wb wi) (fun _ x18 _ => 4 - (intOf x18).toNat)
      case atStart => exact ⟨0, none, 0, rfl, rfl, by omega, World.ownsRow_nil _ _ _ _, Below.refl _ _⟩
      case round =>
        obtain ⟨k, A4, c4, rfl, rfl, hk, hrow, hBi⟩ := hrel
        by_cases hkl : k < 4
        · have hkz := hkl
          have k0 : (0 : Int) ≤ k := by omega
          have k1 : (k : Int) < 4 := by omega
          obtain ⟨o, ho⟩ : ∃ o, ol[k]? = some o := ⟨_, List.getElem?_eq_getElem (by rw [hol0.out]; exact hkl)⟩
          have c0 : wr.cell? ⟨b8, k, none⟩ = some (.int .i64 o) := by
            have hb := hK8.out.kept hBi hK8.out.lt
            rw [hb.cell k]
            simp [i64s, ho]
          have htk : ol.take (k + 1) = ol.take k ++ [o] := by
            obtain ⟨hk3, rfl⟩ := List.getElem?_eq_some_iff.1 ho
            exact List.take_succ_eq_append_getElem hk3
          have hlen : (layO here 0 (ol.take k)).length = k := by rw [layO_len, List.length_take, hol0.out]; omega
          have hsn := layO_snoc here o (ol.take k) 0
          rw [← htk, List.length_take, hol0.out, show 0 + min k 4 = k by omega] at hsn
          have e8 : IntKind.i64.wrap (8 * (k : Int)) = 8 * k := by rw [IntKind.wrap_i64]; omega
          rw [e8] at hsn
          obtain ⟨z, hz⟩ : ∃ z, IntKind.i64.wrap (here + 8 * (k : Int)) = z := ⟨_, rfl⟩
          rw [hz] at hsn
          obtain ⟨A5, c5, w5, hrun, hown, hgr⟩ := dact_append (w := wr) (base := wb.heap.size) ⟨false, z, o, 0⟩ (by rw [hlen]; exact hrow) hBi.size (by rw [hlen]; omega)
          rw [← hsn, layO_len, List.length_take, hol0.out, show min (k + 1) 4 = k + 1 by omega] at hrun hown
          have hB5 : Below wb.heap.size wb w5 := below_grown hBi hgr hBi.size (fun q hq => by have := own_ge hrow q hq; omega)
          replace hrun := Lib.hid hrun
          replace hown := Lib.hid hown
          replace hB5 := Lib.hid hB5
          replace ho := Lib.hid ho
          replace hrow := Lib.hid hrow
          replace hBi := Lib.hid hBi
          clear hgr hsn hlen htk
          go_wp2_with (at_builtin; refine wpList_append_run rfl (.tmp 103) (.tmp 113) 49 rfl (.slice A4 k c4) _ _ rfl rfl hrun.out ?_)
          exact ⟨⟨k + 1, A5, c5, rfl, rfl, by omega, hown.out, hB5.out⟩, by simp [intOf]; omega⟩
        · obtain rfl : k = 4 := by omega
          have hta : ol.take 4 = ol := List.take_of_length_le (by rw [hol0.out]; exact Nat.le_refl _)
          rw [hta] at hrow
          have hDi := hD2.out.kept hBi
          have hBB : Below w.heap.size w wr := hB2.out.trans (hBi.mono hB2.out.size)
          have hXi := hX2.out.kept hBi hX2.out.lt
          have x1 := hXi.cell 1
          have x2 := hXi.cell 2
          have x3 := hXi.cell 3
          simp at x1 x2 x3
          have f7 := hDi.bk.cell 0
          simp at f7
          have hy16 : IntKind.i64.wrap (here + 16) = nxt (nxt here) := by unfold nxt; rw [IntKind.wrap_i64, IntKind.wrap_i64, IntKind.wrap_i64]; omega
          have hy32 : IntKind.i64.wrap (here + 32) = nxt (nxt (nxt (nxt here))) := by unfold nxt; rw [IntKind.wrap_i64, IntKind.wrap_i64, IntKind.wrap_i64, IntKind.wrap_i64, IntKind.wrap_i64]; omega
          have hacts : layO here 0 ol = (eff (X.map Prod.fst) 14 here).acts := by
            rw [← hol.out]
            simp only [layO, Nat.zero_add, lay_0 here hh.out, lay_1 here, lay_2 here, lay_3 here, eff]
          obtain ⟨A', c', w4, hrun, hR4, hO4, hgr4⟩ := hDi.rw.push (⟨6, nxt (nxt here), 0, []⟩, .slice none 0 0) (World.ownsRow_nil _ _ _ _) (B := w.heap.size) hBB.size (fun q hq => by simp [Value.ownBlock] at hq) (by have := hn.out; omega)
          rw [hn.out] at hrun
          have hF4 : Bk w4 F _ _ := hO4.bk hDi.bk (fun hk => hk.elim h.out.out (fun hk => by have := h.out.bk.lt; omega))
          have f0 := hDi.bk.cell 0
          simp at f0
          have g0 := hF4.cell 0
          simp at g0
          have g1 := hF4.free 0
          try simp only at hrun
          have hF5 := hF4.put 0 (.slice A' (j + 1) c')
          have hOF : Onl (fun k => k = F) w4 (w4.setCell ⟨F, 0, none⟩ (.slice A' (j + 1) c')) := (Onl.refl (fun k => k = F) w4).put (p := ⟨F, 0, none⟩) (.inl rfl) _
          have hR5 := hR4.frame hOF (fun k hk e => by subst e; exact hk.elim h.out.out (fun hk => by have := h.out.bk.lt; omega))
          have hrow4 := hrow.kept hgr4 (own_far hrow hDi.rw.row (by decide))
          have hrow5 := hOF.row hrow4 (fun q hq e => by have := own_ge hrow4 q hq; have := h.out.bk.lt; have := hB2.out.size; omega)
          obtain ⟨y2, hy2⟩ : ∃ y, nxt (nxt here) = y := ⟨_, rfl⟩
          obtain ⟨y4, hy4⟩ : ∃ y, nxt (nxt (nxt (nxt here))) = y := ⟨_, rfl⟩
          rw [hy2] at hy16
          rw [hy4] at hy32
          rw [hy2] at hrun
          replace hrun := Lib.hid hrun
          replace hR5 := Lib.hid hR5
          replace hO4 := Lib.hid hO4
          replace hF5 := Lib.hid hF5
          replace hOF := Lib.hid hOF
          replace hrow5 := Lib.hid hrow5
          replace hBB := Lib.hid hBB
          replace hacts := Lib.hid hacts
          replace hy2 := Lib.hid hy2
          replace hy4 := Lib.hid hy4
          clear hgr4 hF4 hR4 hrow hrow4 hBi hDi hta hXi x1 x2 x3
          go_wp2_with (at_builtin; refine wpList_append_run rfl (.tmp 349) (.tmp 353) 43 rfl (.slice (some ⟨g, 0, none⟩) j c) _ _ rfl rfl hrun.out ?_)
          go_returns
          have hst : Go.Proofs.Ytmfffaocmboelaa.step (X.map Prod.fst) 14 here = ⟨0, layO here 0 ol, X.map Prod.fst ++ [⟨6, nxt (nxt here), 0, []⟩]⟩ := by
            rw [hacts.out]
            unfold Go.Proofs.Ytmfffaocmboelaa.step
            rw [if_neg (by decide), if_neg (by rw [htx.out]; exact fun h => h.2 hb.out)]
            simp only [eff]
            rw [if_neg (by rw [List.length_map, hn.out]; exact h16)]
          rw [hst]
          refine ⟨.slice A4 4 c4, .slice A' (j + 1) c', X ++ [(⟨6, nxt (nxt here), 0, []⟩, .slice none 0 0)], rfl, ?_, hF5.out, ?_, ?_, ?_⟩
          · have := own_base hrow5.out hB2.out.size
            rw [layO_len, hol0.out]
            exact this
          · have := hR5.out
            rw [List.length_append, hn.out] at this
            exact this
          · simp
          · exact (Onl.of_below (s := fun k => k = F ∨ own k ∨ w.heap.size ≤ k) hBB.out (fun k hk _ => hk)).trans ((hO4.out.grow (fun k _ hk => .inr hk)).trans (hOF.out.grow (fun k _ hk => .inl hk)))
set_option maxHeartbeats 2000000 in
set_option maxRecDepth 100000 in
theorem dyes_15 (s : ByteArray) (here : Int) (h : Dl w F own v X) (hs : s.size ≤ maxLen) (hr : row s = 15) (hh : -9223372036854775808 ≤ here ∧ here ≤ 9223372036854775807) (hb : (topT (X.map Prod.fst)).k = 6) :
    Calls Try.prog 15 #[.pointer (some ⟨F, 0, none⟩), .string s, .int .i64 here] w fun e w' => Ddone w w' F own (Go.Proofs.Ytmfffaocmboelaa.step (X.map Prod.fst) (row s) here) e := by
  have hrr := rrow_any s w hs
  rw [hr, if_neg (by decide), show ((15 : Nat) : Int) = 15 from rfl] at hrr
  rw [hr]
  obtain ⟨m, hm0⟩ : ∃ m, X.length = m + 1 := by
    cases hX : X.length with
    | zero => rw [List.eq_nil_of_length_eq_zero hX] at hb; exact absurd hb (by decide)
    | succ m => exact ⟨m, rfl⟩
  obtain ⟨x, hx⟩ : ∃ x, X[m]? = some x := ⟨_, List.getElem?_eq_getElem (by omega)⟩
  have htx := topT_at rfl hm0 hx
  rw [htx] at hb
  obtain ⟨g, c0, hvg, _⟩ := h.rw.form (by omega)
  have htop : ∀ W, Dl W F own v X → Calls Try.prog 25 #[.pointer (some ⟨F, 0, none⟩), .int .i64 6] W fun e w' => e = .returned (.tuple #[dagg x, .bool true]) ∧ Below W.heap.size W w' := fun W hW => by
    have := rtop_yes hW hvg rfl hm0 hx
    rw [hb] at this
    exact this
  obtain ⟨Am, cm, hxm⟩ := own_form (h.rw.more x (List.mem_of_getElem? hx))
  unfold dagg at htop
  rw [hxm] at htop
  replace htop := Lib.hid htop
  replace hb := Lib.hid hb
  replace htx := Lib.hid htx
  replace hx := Lib.hid hx
  replace hm0 := Lib.hid hm0
  replace hxm := Lib.hid hxm
  replace hvg := Lib.hid hvg
  obtain ⟨A, c, hv⟩ := own_form h.rw.row
  obtain ⟨n, hn⟩ : ∃ n, X.length = n := ⟨_, rfl⟩
  rw [hn] at hv
  have hln := h.len
  rw [hn] at hln
  have i16 : (n : Int) ≤ 16 := by omega
  subst hv
  replace hrr := Lib.hid hrr
  replace h := Lib.hid h
  replace hn := Lib.hid hn
  replace hh := Lib.hid hh
  have hvg' := hvg.out
  injection hvg' with eA en ec
  clear en ec
  subst eA
  clear hvg
  have hm1 : n = m + 1 := by rw [← hn.out]; exact hm0.out
  have e1 : IntKind.i64.wrap ((n : Int) - 1) = (m : Int) := by rw [IntKind.wrap_i64]; omega
  have m0 : (0 : Int) ≤ m := by omega
  replace hm1 := Lib.hid hm1
  go_enter Try.func15, Try.ntmps15
  go_wp2_with (fail)
  refine hrr.out.mono ?_
  rintro e w1 ⟨rfl, hb1⟩
  have hw1z := Lib.hid hb1.size
  have hB1 : Below w.heap.size w (w1.alloc (.cells #[.int .i64 0, .int .i64 0, .int .i64 0, .slice none 0 0] 70)) := hb1.alloc hb1.size _
  have hX9 := Bk.fresh w1 70 #[.int .i64 0, .int .i64 0, .int .i64 0, .slice none 0 0]
  go_wp2_with (fail)
  obtain ⟨b9, hb9⟩ : ∃ b, w1.heap.size = b := ⟨_, rfl⟩
  obtain ⟨W, hW⟩ : ∃ W, w1.alloc (.cells #[.int .i64 0, .int .i64 0, .int .i64 0, .slice none 0 0] 70) = W := ⟨_, rfl⟩
  rw [hb9, hW] at hX9
  rw [hW] at hB1 ⊢
  try rw [hb9]
  clear hW hb1
  have hD := h.out.kept hB1
  have f0 := hD.bk.cell 0
  simp at f0
  replace hD := Lib.hid hD
  replace hB1 := Lib.hid hB1
  replace hX9 := Lib.hid hX9
  replace hb9 := Lib.hid hb9
  refine (rwants_15 W).mono ?_
  rintro e w2 ⟨rfl, hw2⟩
  replace hw2 := hw2.symm
  subst hw2
  go_wp2_with (fail)
  refine (htop.out _ hD.out).mono ?_
  rintro e w3 ⟨rfl, hb3⟩
  have hX3 := (hX9.out.kept hb3 hX9.out.lt).past (.cells #[.int .i64 (x.1.k : Int), .int .i64 x.1.at_, .int .i64 x.1.tgt, .slice Am x.1.more.length cm] 70)
  have x0 := hX3.cell 0
  have x1 := hX3.cell 1
  have x2 := hX3.cell 2
  have x3 := hX3.cell 3
  have z0 := hX3.free 0
  have z1 := hX3.free 1
  have z2 := hX3.free 2
  have z3 := hX3.free 3
  simp at x0 x1 x2 x3
  replace hX3 := Lib.hid hX3
  clear f0
  go_wp2_with (fail)
  have hB4 := hB1.out.trans (((hb3.alloc hb3.size (.cells #[.int .i64 (x.1.k : Int), .int .i64 x.1.at_, .int .i64 x.1.tgt, .slice Am x.1.more.length cm] 70))).mono hB1.out.size)
  have hb9w : w.heap.size ≤ b9 := by rw [← hb9.out]; exact hw1z.out
  have hX4 := (((hX3.out.put 0 (.int .i64 (x.1.k : Int))).put 1 (.int .i64 x.1.at_)).put 2 (.int .i64 x.1.tgt)).put 3 (.slice Am x.1.more.length cm)
  have hB5 := (((hB4.setCell (p := ⟨b9, 0, none⟩) hb9w (.int .i64 (x.1.k : Int))).setCell (p := ⟨b9, 1, none⟩) hb9w (.int .i64 x.1.at_)).setCell (p := ⟨b9, 2, none⟩) hb9w (.int .i64 x.1.tgt)).setCell (p := ⟨b9, 3, none⟩) hb9w (.slice Am x.1.more.length cm)
  obtain ⟨W4, hW4⟩ : ∃ W4, (((((w3.alloc (.cells #[.int .i64 (x.1.k : Int), .int .i64 x.1.at_, .int .i64 x.1.tgt, .slice Am x.1.more.length cm] 70)).setCell ⟨b9, 0, none⟩ (.int .i64 (x.1.k : Int))).setCell ⟨b9, 1, none⟩ (.int .i64 x.1.at_)).setCell ⟨b9, 2, none⟩ (.int .i64 x.1.tgt)).setCell ⟨b9, 3, none⟩ (.slice Am x.1.more.length cm)) = W4 := ⟨_, rfl⟩
  rw [hW4] at hX4 hB5 ⊢
  simp at hX4
  clear hW4 x0 x1 x2 x3 z0 z1 z2 z3 hX3 hB4 hb3 hD hB1 hX9
  have hD := h.out.kept hB5
  have hB1 := Lib.hid hB5
  have hX9 := Lib.hid hX4
  have f0 := hD.bk.cell 0
  simp at f0
  replace hD := Lib.hid hD
  clear hB5 hX4
  go_loopw [13, 14] (fun x13 x14 wr => ∃ j : Nat, Hid (x13 = .int .i64 (lastV (X.map Prod.fst) j)) ∧ x14 = .int .i64 j ∧ j ≤ n ∧ wr = W4) (fun _ x14 _ => n - (intOf x14).toNat)
  case atStart => exact ⟨0, rfl, rfl, by omega, rfl⟩
  case round =>
    obtain ⟨j, hx13, rfl, hj, rfl⟩ := hrel
    have j0 : (0 : Int) ≤ j := by omega
    by_cases hjn : j < n
    · have hjz := hjn
      have j1 : (j : Int) < n := by omega
      obtain ⟨xj, hxj⟩ : ∃ x, X[j]? = some x := ⟨_, List.getElem?_eq_getElem (by have := hn.out; omega)⟩
      have hTd := Rwd.tp (c := c) (by have := hD.out.rw; rw [← hn.out] at this; exact this) j xj hxj
      have t0 := hTd.c0
      have hget := getD_th X j xj hxj
      replace hTd := Lib.hid hTd
      replace hxj := Lib.hid hxj
      by_cases hk : xj.1.k = 4
      · have z : ((xj.1.k : Int) == 4) = true := by simp [hk]
        have hlv := lastV_yes (X.map Prod.fst) j (by rw [hget]; exact hk)
        obtain ⟨kk, hkk⟩ : ∃ kk : Int, (xj.1.k : Int) = kk := ⟨_, rfl⟩
        rw [hkk] at z t0
        replace hkk := Lib.hid hkk
        replace hlv := Lib.hid hlv
        clear hk hget
        go_wp2_with (fail)
        exact ⟨⟨j + 1, Lib.hid (by rw [hlv.out]), rfl, by omega, (by first | trivial | rfl)⟩, by simp [intOf]; omega⟩
      · have z : ((xj.1.k : Int) == 4) = false := by simp; omega
        have hlv := lastV_no (X.map Prod.fst) j (by rw [hget]; exact hk)
        obtain ⟨kk, hkk⟩ : ∃ kk : Int, (xj.1.k : Int) = kk := ⟨_, rfl⟩
        rw [hkk] at z t0
        replace hkk := Lib.hid hkk
        replace hlv := Lib.hid hlv
        clear hk hget
        go_wp2_with (fail)
        exact ⟨⟨j + 1, Lib.hid (by rw [hlv.out]; exact hx13.out), rfl, by omega, (by first | trivial | rfl)⟩, by simp [intOf]; omega⟩
    · have e : j = n := by omega
      subst e
      have j1 : ¬ (j : Int) < j := by omega
      clear hjn
      go_wp2_with (fail)
      obtain ⟨wb, hwb⟩ : ∃ wb, wr.alloc (.cells #[.int .i64 4] 3) = wb := ⟨_, rfl⟩
      have hK8 := Bk.fresh wr 3 #[.int .i64 4]
      have hBw : Below wr.heap.size wr (wr.alloc (.cells #[.int .i64 4] 3)) := (Below.refl _ _).alloc (Nat.le_refl _) _
      rw [hwb] at hK8 hBw
      have hB2 := hB1.out.trans (hBw.mono hB1.out.size)
      have hD2 := hD.out.kept hBw
      have hX2 := hX9.out.kept hBw hX9.out.lt
      refine (rlays_15 wr).mono ?_
      rintro e w2 ⟨rfl, hw2⟩
      rw [hwb] at hw2
      replace hw2 := hw2.symm
      subst hw2
      obtain ⟨b8, hb8⟩ : ∃ b, wr.heap.size = b := ⟨_, rfl⟩
      rw [hb8] at hK8 ⊢
      obtain ⟨ol, hol⟩ : ∃ ol : List Int, [4] = ol := ⟨_, rfl⟩
      have hol0 : ol.length = 1 := by rw [← hol]; rfl
      rw [show (#[.int .i64 4] : Array Value) = (i64s [4]).toArray from rfl, hol] at hK8
      replace hK8 := Lib.hid hK8
      replace hB2 := Lib.hid hB2
      replace hD2 := Lib.hid hD2
      replace hX2 := Lib.hid hX2
      replace hol := Lib.hid hol
      replace hol0 := Lib.hid hol0
      clear hBw hwb f0 hb8
      go_wp2_with (fail)
      go_loopw [16, 18] (fun x16 x18 wi => ∃ (k : Nat) (A4 : Option Addr) (c4 : Nat), x16 = .slice A4 k c4 ∧ x18 = .int .i64 k ∧ k ≤ 1 ∧ wi.ownsRow wb.heap.size 54 4 (.slice A4 k c4) k (actC (layO here 0 (ol.take k))) ∧ Below wb.heap.size wb wi) (fun _ x18 _ => 1 - (intOf x18).toNat)
      case atStart => exact ⟨0, none, 0, rfl, rfl, by omega, World.ownsRow_nil _ _ _ _, Below.refl _ _⟩
      case round =>
        obtain ⟨k, A4, c4, rfl, rfl, hk, hrow, hBi⟩ := hrel
        by_cases hkl : k < 1
        · have hkz := hkl
          have k0 : (0 : Int) ≤ k := by omega
          have k1 : (k : Int) < 1 := by omega
          obtain ⟨o, ho⟩ : ∃ o, ol[k]? = some o := ⟨_, List.getElem?_eq_getElem (by rw [hol0.out]; exact hkl)⟩
          have c0 : wr.cell? ⟨b8, k, none⟩ = some (.int .i64 o) := by
            have hb := hK8.out.kept hBi hK8.out.lt
            rw [hb.cell k]
            simp [i64s, ho]
          have htk : ol.take (k + 1) = ol.take k ++ [o] := by
            obtain ⟨hk3, rfl⟩ := List.getElem?_eq_some_iff.1 ho
            exact List.take_succ_eq_append_getElem hk3
          have hlen : (layO here 0 (ol.take k)).length = k := by rw [layO_len, List.length_take, hol0.out]; omega
          have hsn := layO_snoc here o (ol.take k) 0
          rw [← htk, List.length_take, hol0.out, show 0 + min k 1 = k by omega] at hsn
          have e8 : IntKind.i64.wrap (8 * (k : Int)) = 8 * k := by rw [IntKind.wrap_i64]; omega
          rw [e8] at hsn
          obtain ⟨z, hz⟩ : ∃ z, IntKind.i64.wrap (here + 8 * (k : Int)) = z := ⟨_, rfl⟩
          rw [hz] at hsn
          obtain ⟨A5, c5, w5, hrun, hown, hgr⟩ := dact_append (w := wr) (base := wb.heap.size) ⟨false, z, o, 0⟩ (by rw [hlen]; exact hrow) hBi.size (by rw [hlen]; omega)
          rw [← hsn, layO_len, List.length_take, hol0.out, show min (k + 1) 1 = k + 1 by omega] at hrun hown
          have hB5 : Below wb.heap.size wb w5 := below_grown hBi hgr hBi.size (fun q hq => by have := own_ge hrow q hq; omega)
          replace hrun := Lib.hid hrun
          replace hown := Lib.hid hown
          replace hB5 := Lib.hid hB5
          replace ho := Lib.hid ho
          replace hrow := Lib.hid hrow
          replace hBi := Lib.hid hBi
          clear hgr hsn hlen htk
          go_wp2_with (at_builtin; refine wpList_append_run rfl (.tmp 103) (.tmp 113) 49 rfl (.slice A4 k c4) _ _ rfl rfl hrun.out ?_)
          exact ⟨⟨k + 1, A5, c5, rfl, rfl, by omega, hown.out, hB5.out⟩, by simp [intOf]; omega⟩
        · obtain rfl : k = 1 := by omega
          have hta : ol.take 1 = ol := List.take_of_length_le (by rw [hol0.out]; exact Nat.le_refl _)
          rw [hta] at hrow
          have hDi := hD2.out.kept hBi
          have hBB : Below w.heap.size w wr := hB2.out.trans (hBi.mono hB2.out.size)
          have hXi := hX2.out.kept hBi hX2.out.lt
          have x1 := hXi.cell 1
          have x2 := hXi.cell 2
          have x3 := hXi.cell 3
          simp at x1 x2 x3
          have f7 := hDi.bk.cell 0
          simp at f7
          have hacts : layO here 0 ol = [⟨false, here, 4, 0⟩] := by
            rw [← hol.out]
            simp only [layO, Nat.zero_add, lay_0 here hh.out]
          rw [hacts] at hrow
          have y8 : IntKind.i64.wrap (here + 8) = nxt here := rfl
          obtain ⟨A9, c9, w5, hrun, hown, hgr⟩ := dact_append (w := wr) (base := wb.heap.size) ⟨true, x.1.at_, 0, nxt here⟩ hrow hBi.size (by simp)
          simp only [List.cons_append, List.nil_append, List.length_cons, List.length_nil, Nat.zero_add, Nat.reduceAdd] at hrun hown
          have hB5 : Below wb.heap.size wb w5 := below_grown hBi hgr hBi.size (fun q hq => own_ge hrow q hq)
          have hD5 := hD2.out.kept hB5
          have hBB5 := hB2.out.trans (hB5.mono hB2.out.size)
          have f5 := hD5.bk.cell 0
          simp at f5
          have f6 := hD5.bk.free 0
          obtain ⟨hF7, hO7, Y, hR7, hL7⟩ := dpop hD5.rw hD5.bk hn.out hm1.out hD5.out
          have hrow7 := hO7.row hown (fun q hq e => by have := own_ge hown q hq; have := hD2.out.bk.lt; omega)
          obtain ⟨w7, hw7⟩ : ∃ w7, w5.setCell ⟨F, 0, none⟩ (.slice (some ⟨g, 0, none⟩) m c) = w7 := ⟨_, rfl⟩
          rw [hw7] at hF7 hO7 hR7 hrow7
          obtain ⟨i, hi⟩ : ∃ i, m = i + 1 := by
            cases hm9 : m with
            | succ i => exact ⟨i, rfl⟩
            | zero =>
              exfalso
              have hx9 := hx.out
              rw [hm9] at hx9
              have := h.out.low x (by rw [List.head?_eq_getElem?]; exact hx9)
              exact this hb.out
          have hYl : Y.length = m := by have := congrArg List.length hL7; rw [List.length_map, List.length_dropLast, List.length_map, hn.out] at this; have := hm1.out; omega
          obtain ⟨y, hy⟩ : ∃ y, Y[i]? = some y := ⟨_, List.getElem?_eq_getElem (by omega)⟩
          have hy9 : (X.map Prod.fst)[i]? = some y.1 := by
            have h1 : (Y.map Prod.fst)[i]? = some y.1 := by rw [List.getElem?_map, hy]; rfl
            rw [hL7, List.getElem?_dropLast] at h1
            split at h1
            · exact h1
            · cases h1
          have hmo : y.1.more.length ≤ 50000 := by
            have h1 := List.mem_of_getElem? hy9
            obtain ⟨z, hz, hz1⟩ := List.mem_map.1 h1
            rw [← hz1]
            exact h.out.more z hz
          have hbz : w.heap.size ≤ w7.drew.heap.size := by have := hBB5.size; have := hO7.size; exact Nat.le_trans (by omega) this
          obtain ⟨A8, c8, w8, hrun8, hgr8, hT8, hR8, hO8⟩ := (show Rwd w7.drew own (.slice (some ⟨g, 0, none⟩) Y.length c) Y by rw [hYl]; exact hR7.draw).grow i y hy here (by omega) (B := w.heap.size) hbz
          have hrow8 := hO8.row (show w7.drew.ownsRow _ _ _ _ _ _ from hrow7) (fun q hq e => by have := own_ge hown q hq; have := hD2.out.old q e; omega)
          have hF8 := hO8.bk hF7.draw h.out.out
          have hgo := hD5.rw.own1 g rfl
          have hFg : F ≠ g := fun e => h.out.out (e ▸ hgo)
          have hF9 := Bk.grown (show Bk w7.drew F _ _ from hF7) hgr8 (fun e => h.out.out (hR7.own2 y (List.mem_of_getElem? hy) F e.symm))
          have k0 := hF9.cell 0
          simp at k0
          have k1 := hT8.c3
          have k2 := hT8.fr (i * 4 + 3)
          have ht7 := (show Rwd w7 own (.slice (some ⟨g, 0, none⟩) Y.length c) Y by rw [hYl]; exact hR7).tp i y hy
          have t3 := ht7.c3
          have k3 : IntKind.i64.wrap ((j : Int) - 2) = (i : Int) := by have := hm1.out; rw [IntKind.wrap_i64]; omega
          have k4 : (0 : Int) ≤ i := by omega
          have k5 : (i : Int) < m := by omega
          have j2 : (m : Int) ≤ c := by
            obtain ⟨g1, c1, e, _, _, hc⟩ := hD2.out.rw.form (by rw [hn.out]; have := hm1.out; omega)
            injection e with _ _ e
            have := hn.out; have := hm1.out
            omega
          have j3 : m ≤ c := by omega
          obtain ⟨y1, hy1⟩ : ∃ y, nxt here = y := ⟨_, rfl⟩
          rw [hy1] at y8
          rw [hy1] at hrun hown hrow7 hrow8
          obtain ⟨mv, hmv⟩ : ∃ mv, y.2 = mv := ⟨_, rfl⟩
          obtain ⟨ml, hml⟩ : ∃ ml, y.1.more.length = ml := ⟨_, rfl⟩
          rw [hmv] at t3 k1 hrun8
          rw [hml] at hrun8 hR8 hO8 hrow8 hF8
          have t3c : (w7.alloc (.cells #[.int .i64 here] 3)).cell? ⟨g, i * 4 + 3, none⟩ = some mv := (((Below.refl w7.heap.size w7).alloc (Nat.le_refl _) _).cell (p := ⟨g, i * 4 + 3, none⟩) (show g < w7.heap.size from (hR7.row.lt g rfl).2)).trans t3
          have hF7c := (hF7.past (.cells #[.int .i64 here] 3)).cell 0
          simp at hF7c
          have hfz := hF7.cell 0
          simp at hfz
          have k9 : (w8.setCell ⟨g, i * 4 + 3, none⟩ (.slice A8 (ml + 1) c8)).cell? ⟨F, 0, none⟩ = some (.slice (some ⟨g, 0, none⟩) m c) := by have := hF8.cell 0; simp at this; exact this
          replace hrun := Lib.hid hrun
          replace hrun8 := Lib.hid hrun8
          replace hF7 := Lib.hid hF7
          replace hO7 := Lib.hid hO7
          replace hR7 := Lib.hid hR7
          replace hL7 := Lib.hid hL7
          replace hrow7 := Lib.hid hrow7
          replace hF8 := Lib.hid hF8
          replace hO8 := Lib.hid hO8
          replace hR8 := Lib.hid hR8
          replace hrow8 := Lib.hid hrow8
          replace hBB5 := Lib.hid hBB5
          replace hmv := Lib.hid hmv
          replace hml := Lib.hid hml
          replace hy9 := Lib.hid hy9
          replace hy := Lib.hid hy
          replace hi := Lib.hid hi
          replace hYl := Lib.hid hYl
          replace hy1 := Lib.hid hy1
          replace hw7 := Lib.hid hw7
          clear hgr hB5 hD5 hown hrow hBi hDi hXi hta hacts hBB hgr8 hT8 hF9 ht7 hmo hbz x2 x3
          go_wp2_with (at_builtin; refine wpList_append_run rfl (.tmp 359) (.tmp 364) 49 rfl (.slice A4 1 c4) _ _ rfl rfl hrun.out ?_)
          rw [hw7.out]
          refine wp_region_held_drew (S := fun W_ => W_.cell? ⟨F, 0, none⟩ = some (.slice (some ⟨g, 0, none⟩) m c)) (by kernel_rfl) hfz (fun hHeld => ?_)
          refine wpAnyH_take (i := 0) (oi := { dst := some 376, op := _, type := _, pos := _, after := _, guard := _ }) (v := ?_) rfl (by kernel_rfl) (by kernel_rfl) (by kernel_rfl) (fun _ _ _ h => h) (Or.inl ⟨by rfl, ?_⟩) (by assumption) ?_
          rotate_left
          focus ((intro w hSw); (try dsimp only at hSw); go_simp; (try (with_reducible rfl)))
          try simp only [Act.put, List.setIfInBounds_toArray, List.set_cons_zero, List.set_cons_succ]
          refine wpAnyH_take (i := 1) (oi := { dst := some 377, op := _, type := _, pos := _, after := _, guard := _ }) (v := ?_) rfl (by kernel_rfl) (by kernel_rfl) (by kernel_rfl) (fun _ _ _ h => h) (Or.inl ⟨by rfl, ?_⟩) (by assumption) ?_
          rotate_left
          focus ((intro w hSw); (try dsimp only at hSw); go_simp; (try (with_reducible rfl)))
          try simp only [Act.put, List.setIfInBounds_toArray, List.set_cons_zero, List.set_cons_succ]
          refine wpAnyH_take (i := 2) (oi := { dst := some 378, op := _, type := _, pos := _, after := _, guard := _ }) (v := ?_) rfl (by kernel_rfl) (by kernel_rfl) (by kernel_rfl) (fun _ _ _ h => h) (Or.inl ⟨by rfl, ?_⟩) (by assumption) ?_
          rotate_left
          focus ((intro w hSw); (try dsimp only at hSw); go_simp; (try (with_reducible rfl)))
          try simp only [Act.put, List.setIfInBounds_toArray, List.set_cons_zero, List.set_cons_succ]
          refine wpAnyH_take (i := 3) (oi := { dst := some 379, op := _, type := _, pos := _, after := _, guard := _ }) (v := ?_) rfl (by kernel_rfl) (by kernel_rfl) (by kernel_rfl) (fun _ _ _ h => h) (Or.inl ⟨by rfl, ?_⟩) (by assumption) ?_
          rotate_left
          focus ((intro w hSw); (try dsimp only at hSw); go_simp; (try (with_reducible rfl)))
          try simp only [Act.put, List.setIfInBounds_toArray, List.set_cons_zero, List.set_cons_succ]
          refine wpAnyH_take (i := 4) (oi := { dst := some 380, op := _, type := _, pos := _, after := _, guard := _ }) (v := ?_) rfl (by kernel_rfl) (by kernel_rfl) (by kernel_rfl) (fun _ _ _ h => h) (Or.inl ⟨by rfl, ?_⟩) (by assumption) ?_
          rotate_left
          focus ((intro w hSw); (try dsimp only at hSw); go_simp; (try (with_reducible rfl)))
          try simp only [Act.put, List.setIfInBounds_toArray, List.set_cons_zero, List.set_cons_succ]
          refine wpAnyH_take (i := 5) (oi := { dst := some 381, op := _, type := _, pos := _, after := _, guard := _ }) (v := ?_) rfl (by kernel_rfl) (by kernel_rfl) (by kernel_rfl) (fun _ _ _ h => h) (Or.inl ⟨by rfl, ?_⟩) (by assumption) ?_
          rotate_left
          focus ((intro w hSw); (try dsimp only at hSw); go_simp; (try (with_reducible rfl)))
          try simp only [Act.put, List.setIfInBounds_toArray, List.set_cons_zero, List.set_cons_succ]
          refine wpAnyH_take (i := 6) (oi := { dst := some 382, op := _, type := _, pos := _, after := _, guard := _ }) (v := ?_) rfl (by kernel_rfl) (by kernel_rfl) (by kernel_rfl) (fun _ _ _ h => h) (Or.inl ⟨by rfl, ?_⟩) (by assumption) ?_
          rotate_left
          focus ((intro w hSw); (try dsimp only at hSw); go_simp; (try (with_reducible rfl)))
          try simp only [Act.put, List.setIfInBounds_toArray, List.set_cons_zero, List.set_cons_succ]
          refine wpAnyH_take (i := 7) (oi := { dst := some 383, op := _, type := _, pos := _, after := _, guard := _ }) (v := ?_) rfl (by kernel_rfl) (by kernel_rfl) (by kernel_rfl) (fun _ _ _ h => h) (Or.inl ⟨by rfl, ?_⟩) (by assumption) ?_
          rotate_left
          focus ((intro w hSw); (try dsimp only at hSw); go_simp; (try (with_reducible rfl)))
          try simp only [Act.put, List.setIfInBounds_toArray, List.set_cons_zero, List.set_cons_succ]
          refine wpAnyH_take (i := 8) (oi := { dst := some 384, op := _, type := _, pos := _, after := _, guard := _ }) (v := ?_) rfl (by kernel_rfl) (by kernel_rfl) (by kernel_rfl) (fun _ _ _ h => h) (Or.inl ⟨by rfl, ?_⟩) (by assumption) ?_
          rotate_left
          focus ((intro w hSw); (try dsimp only at hSw); go_simp; (try (with_reducible rfl)))
          try simp only [Act.put, List.setIfInBounds_toArray, List.set_cons_zero, List.set_cons_succ]
          refine wpAnyH_take (i := 9) (oi := { dst := some 385, op := _, type := _, pos := _, after := _, guard := _ }) (v := ?_) rfl (by kernel_rfl) (by kernel_rfl) (by kernel_rfl) (fun _ _ _ h => h) (Or.inl ⟨by rfl, ?_⟩) (by assumption) ?_
          rotate_left
          focus ((intro w hSw); (try dsimp only at hSw); go_simp; (try (with_reducible rfl)))
          try simp only [Act.put, List.setIfInBounds_toArray, List.set_cons_zero, List.set_cons_succ]
          refine wpAnyH_take (i := 10) (oi := { dst := some 386, op := _, type := _, pos := _, after := _, guard := _ }) (v := ?_) rfl (by kernel_rfl) (by kernel_rfl) (by kernel_rfl) (fun _ _ _ h => h) (Or.inl ⟨by rfl, ?_⟩) (by assumption) ?_
          rotate_left
          focus ((intro w hSw); (try dsimp only at hSw); go_simp; (try (with_reducible rfl)))
          try simp only [Act.put, List.setIfInBounds_toArray, List.set_cons_zero, List.set_cons_succ]
          refine wpAnyH_take (i := 11) (oi := { dst := some 387, op := _, type := _, pos := _, after := _, guard := _ }) (v := ?_) rfl (by kernel_rfl) (by kernel_rfl) (by kernel_rfl) (fun _ _ _ h => h) (Or.inl ⟨by rfl, ?_⟩) (by assumption) ?_
          rotate_left
          focus ((intro w hSw); (try dsimp only at hSw); go_simp; (try (with_reducible rfl)))
          try simp only [Act.put, List.setIfInBounds_toArray, List.set_cons_zero, List.set_cons_succ]
          refine wpAnyH_take (i := 12) (oi := { dst := some 388, op := _, type := _, pos := _, after := _, guard := _ }) (v := ?_) rfl (by kernel_rfl) (by kernel_rfl) (by kernel_rfl) (fun _ _ _ h => h) (Or.inl ⟨by rfl, ?_⟩) (by assumption) ?_
          rotate_left
          focus ((intro w hSw); (try dsimp only at hSw); go_simp; (try (with_reducible rfl)))
          try simp only [Act.put, List.setIfInBounds_toArray, List.set_cons_zero, List.set_cons_succ]
          refine wpAnyH_take (i := 13) (oi := { dst := some 389, op := _, type := _, pos := _, after := _, guard := _ }) (v := ?_) rfl (by kernel_rfl) (by kernel_rfl) (by kernel_rfl) (fun _ _ _ h => h) (Or.inl ⟨by rfl, ?_⟩) (by assumption) ?_
          rotate_left
          focus ((intro w hSw); (try dsimp only at hSw); go_simp; (try (with_reducible rfl)))
          try simp only [Act.put, List.setIfInBounds_toArray, List.set_cons_zero, List.set_cons_succ]
          refine wpAnyH_take (i := 15) (oi := { dst := some 391, op := _, type := _, pos := _, after := _, guard := _ }) (v := ?_) rfl (by kernel_rfl) (by kernel_rfl) (by kernel_rfl) (fun _ _ _ h => h) (Or.inl ⟨by rfl, ?_⟩) (by assumption) ?_
          rotate_left
          focus ((intro w hSw); (try dsimp only at hSw); go_simp; (try (with_reducible rfl)))
          try simp only [Act.put, List.setIfInBounds_toArray, List.set_cons_zero, List.set_cons_succ]
          clear hHeld
          refine wpAnyH_ready (rs := [14, 16]) (by kernel_rfl) (by simp) ?_
          refine AllReadyH.cons (o := { dst := some 390, op := _, type := _, pos := _, after := _, guard := _ }) rfl (fun K hK => ?_) (AllReadyH.cons (o := { dst := some 392, op := _, type := _, pos := _, after := _, guard := _ }) rfl (fun K hK => ?_) AllReadyH.nil)
          · have z := hK
            go_simp
            refine hK _ _ hfz (fun hHeld => ?_)
            clear hK K hHeld z
            try simp only [Act.put, List.setIfInBounds_toArray, List.set_cons_zero, List.set_cons_succ]
            refine wpAnyH_ready (rs := [16]) (by kernel_rfl) (by simp) ?_
            refine AllReadyH.cons (o := { dst := some 392, op := _, type := _, pos := _, after := _, guard := _ }) rfl (fun K hK => ?_) AllReadyH.nil
            go_simp
            refine hK _ _ hF7c (fun hHeld => ?_)
            clear hK K hHeld
            try simp only [Act.put, List.setIfInBounds_toArray, List.set_cons_zero, List.set_cons_succ]
            refine wpAnyH_ready (rs := [17]) (by kernel_rfl) (by simp) ?_
            refine AllReadyH.cons (o := { dst := some 393, op := _, type := _, pos := _, after := _, guard := _ }) rfl (fun K hK => ?_) AllReadyH.nil
            refine step_append_run rfl (.tmp 390) (.tmp 392) 32 rfl mv _ _ rfl rfl hrun8.out ?_
            refine hK _ _ k0 (fun hHeld => ?_)
            clear hK K
            try simp only [Act.put, List.setIfInBounds_toArray, List.set_cons_zero, List.set_cons_succ]
            refine wpAnyH_take (i := 18) (oi := { dst := some 394, op := _, type := _, pos := _, after := _, guard := _ }) (v := ?_) rfl (by kernel_rfl) (by kernel_rfl) (by kernel_rfl) (fun _ _ _ h => h) (Or.inl ⟨by rfl, ?_⟩) (by assumption) ?_
            rotate_left
            focus ((intro w hSw); (try dsimp only at hSw); go_simp; (try (with_reducible rfl)))
            try simp only [Act.put, List.setIfInBounds_toArray, List.set_cons_zero, List.set_cons_succ]
            refine wpAnyH_take (i := 19) (oi := { dst := some 395, op := _, type := _, pos := _, after := _, guard := _ }) (v := ?_) rfl (by kernel_rfl) (by kernel_rfl) (by kernel_rfl) (fun _ _ _ h => h) (Or.inl ⟨by rfl, ?_⟩) (by assumption) ?_
            rotate_left
            focus ((intro w hSw); (try dsimp only at hSw); go_simp; (try (with_reducible rfl)))
            try simp only [Act.put, List.setIfInBounds_toArray, List.set_cons_zero, List.set_cons_succ]
            clear hHeld
            refine wpAnyH_ready (rs := [20]) (by kernel_rfl) (by simp) ?_
            refine AllReadyH.cons (o := { dst := none, op := _, type := _, pos := _, after := _, guard := _ }) rfl (fun K hK => ?_) AllReadyH.nil
            go_simp
            refine hK _ _ k9 (fun hHeld => ?_)
            clear hK K hHeld
            try simp only [Act.put, List.setIfInBounds_toArray, List.set_cons_zero, List.set_cons_succ]
            refine wpAnyH_done (by kernel_rfl) ?_ _
            go_wp2_with (fail)
            go_returns
            have hst : Go.Proofs.Ytmfffaocmboelaa.step (X.map Prod.fst) 15 here = ⟨0, [⟨false, here, 4, 0⟩, ⟨true, x.1.at_, 0, y1⟩], (X.map Prod.fst).dropLast.set i (y.1.plus here)⟩ := by
              unfold Go.Proofs.Ytmfffaocmboelaa.step
              rw [if_neg (by decide), if_neg (by rw [htx.out]; exact fun h => h.2 hb.out)]
              have hl2 : (X.map Prod.fst).length - 2 = i := by rw [List.length_map, hn.out]; have := hm1.out; have := hi.out; omega
              have hg2 : (X.map Prod.fst).getD i th0 = y.1 := by rw [List.getD_eq_getElem?_getD, hy9.out]; rfl
              simp only [eff, htx.out, hy1.out, hl2, hg2]
              rw [List.dropLast_eq_take, List.dropLast_eq_take, List.length_set, List.take_set]
            rw [hst]
            refine ⟨.slice A9 2 c9, .slice (some ⟨g, 0, none⟩) m c, Y.set i (y.1.plus here, .slice A8 (ml + 1) c8), rfl, own_base hrow8.out hB2.out.size, hF8.out, ?_, ?_, ?_⟩
            · have := hR8.out
              rw [List.length_set, hYl.out] at this
              exact this
            · rw [List.map_set, hL7.out]
            · exact (Onl.of_below (s := fun k => k = F ∨ own k ∨ w.heap.size ≤ k) hBB5.out (fun k hk _ => hk)).trans ((hO7.out.draw.grow (fun k _ hk => .inl hk)).trans (hO8.out.grow (fun k _ hk => .inr (.inl hk))))
          · have z := hK
            go_simp
            refine hK _ _ hF7c (fun hHeld => ?_)
            clear hK K hHeld z
            try simp only [Act.put, List.setIfInBounds_toArray, List.set_cons_zero, List.set_cons_succ]
            refine wpAnyH_ready (rs := [14]) (by kernel_rfl) (by simp) ?_
            refine AllReadyH.cons (o := { dst := some 390, op := _, type := _, pos := _, after := _, guard := _ }) rfl (fun K hK => ?_) AllReadyH.nil
            go_simp
            refine hK _ _ hF7c (fun hHeld => ?_)
            clear hK K hHeld
            try simp only [Act.put, List.setIfInBounds_toArray, List.set_cons_zero, List.set_cons_succ]
            refine wpAnyH_ready (rs := [17]) (by kernel_rfl) (by simp) ?_
            refine AllReadyH.cons (o := { dst := some 393, op := _, type := _, pos := _, after := _, guard := _ }) rfl (fun K hK => ?_) AllReadyH.nil
            refine step_append_run rfl (.tmp 390) (.tmp 392) 32 rfl mv _ _ rfl rfl hrun8.out ?_
            refine hK _ _ k0 (fun hHeld => ?_)
            clear hK K
            try simp only [Act.put, List.setIfInBounds_toArray, List.set_cons_zero, List.set_cons_succ]
            refine wpAnyH_take (i := 18) (oi := { dst := some 394, op := _, type := _, pos := _, after := _, guard := _ }) (v := ?_) rfl (by kernel_rfl) (by kernel_rfl) (by kernel_rfl) (fun _ _ _ h => h) (Or.inl ⟨by rfl, ?_⟩) (by assumption) ?_
            rotate_left
            focus ((intro w hSw); (try dsimp only at hSw); go_simp; (try (with_reducible rfl)))
            try simp only [Act.put, List.setIfInBounds_toArray, List.set_cons_zero, List.set_cons_succ]
            refine wpAnyH_take (i := 19) (oi := { dst := some 395, op := _, type := _, pos := _, after := _, guard := _ }) (v := ?_) rfl (by kernel_rfl) (by kernel_rfl) (by kernel_rfl) (fun _ _ _ h => h) (Or.inl ⟨by rfl, ?_⟩) (by assumption) ?_
            rotate_left
            focus ((intro w hSw); (try dsimp only at hSw); go_simp; (try (with_reducible rfl)))
            try simp only [Act.put, List.setIfInBounds_toArray, List.set_cons_zero, List.set_cons_succ]
            clear hHeld
            refine wpAnyH_ready (rs := [20]) (by kernel_rfl) (by simp) ?_
            refine AllReadyH.cons (o := { dst := none, op := _, type := _, pos := _, after := _, guard := _ }) rfl (fun K hK => ?_) AllReadyH.nil
            go_simp
            refine hK _ _ k9 (fun hHeld => ?_)
            clear hK K hHeld
            try simp only [Act.put, List.setIfInBounds_toArray, List.set_cons_zero, List.set_cons_succ]
            refine wpAnyH_done (by kernel_rfl) ?_ _
            go_wp2_with (fail)
            go_returns
            have hst : Go.Proofs.Ytmfffaocmboelaa.step (X.map Prod.fst) 15 here = ⟨0, [⟨false, here, 4, 0⟩, ⟨true, x.1.at_, 0, y1⟩], (X.map Prod.fst).dropLast.set i (y.1.plus here)⟩ := by
              unfold Go.Proofs.Ytmfffaocmboelaa.step
              rw [if_neg (by decide), if_neg (by rw [htx.out]; exact fun h => h.2 hb.out)]
              have hl2 : (X.map Prod.fst).length - 2 = i := by rw [List.length_map, hn.out]; have := hm1.out; have := hi.out; omega
              have hg2 : (X.map Prod.fst).getD i th0 = y.1 := by rw [List.getD_eq_getElem?_getD, hy9.out]; rfl
              simp only [eff, htx.out, hy1.out, hl2, hg2]
              rw [List.dropLast_eq_take, List.dropLast_eq_take, List.length_set, List.take_set]
            rw [hst]
            refine ⟨.slice A9 2 c9, .slice (some ⟨g, 0, none⟩) m c, Y.set i (y.1.plus here, .slice A8 (ml + 1) c8), rfl, own_base hrow8.out hB2.out.size, hF8.out, ?_, ?_, ?_⟩
            · have := hR8.out
              rw [List.length_set, hYl.out] at this
              exact this
            · rw [List.map_set, hL7.out]
            · exact (Onl.of_below (s := fun k => k = F ∨ own k ∨ w.heap.size ≤ k) hBB5.out (fun k hk _ => hk)).trans ((hO7.out.draw.grow (fun k _ hk => .inl hk)).trans (hO8.out.grow (fun k _ hk => .inr (.inl hk))))
end
end Go.Proofs.Ytmfffaocmboelaa
