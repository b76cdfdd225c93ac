import Derived.Test.YtmfffaocmboelaaDwC
namespace Go.Proofs.Ytmfffaocmboelaa
open Go.RowKit
set_option linter.unusedVariables false
set_option linter.unusedSimpArgs false
/-! the document's Word: the rows that open something -/
section
variable {w w' : World} {F : Nat} {own : Nat → Prop} {v : Value} {X : List (Th × Value)}
theorem Dl.kept {W : World} (h : Dl w F own v X) (hB : Below w.heap.size w W) : Dl W F own v X :=
  ⟨h.bk.kept hB h.bk.lt, h.rw.frame (Onl.of_below (s := fun k => w.heap.size ≤ k) hB (fun k _ hk => by omega)) (fun k hk => by have := h.old k hk; omega), h.out, fun k hk => Nat.lt_of_lt_of_le (h.old k hk) hB.size, h.len, h.more, h.low⟩
set_option maxHeartbeats 2000000 in
set_option maxRecDepth 100000 in
theorem dword_0 (s : ByteArray) (here : Int) (h : Dl w F own v X) (hs : s.size ≤ maxLen) (hr : row s = 0) (hh : -9223372036854775808 ≤ here ∧ here ≤ 9223372036854775807) :
    Calls Try.prog 15 #[.pointer (some ⟨F, 0, none⟩), .string s, .int .i64 here] w fun e w' => Ddone w w' F own (Go.Proofs.Ytmfffaocmboelaa.step (X.map Prod.fst) (row s) here) e := by
  have hrr := rrow_any s w hs
  rw [hr, if_neg (by decide), show ((0 : Nat) : Int) = 0 from rfl] at hrr
  rw [hr]
  obtain ⟨A, c, hv⟩ := own_form h.rw.row
  obtain ⟨n, hn⟩ : ∃ n, X.length = n := ⟨_, rfl⟩
  rw [hn] at hv
  have hln := h.len
  rw [hn] at hln
  have i16 : (n : Int) ≤ 16 := by omega
  subst hv
  replace hrr := Lib.hid hrr
  replace h := Lib.hid h
  replace hn := Lib.hid hn
  replace hh := Lib.hid hh
  go_enter Try.func15, Try.ntmps15
  go_wp2_with (fail)
  refine hrr.out.mono ?_
  rintro e w1 ⟨rfl, hb1⟩
  have hB1 : Below w.heap.size w (w1.alloc (.cells #[.int .i64 0, .int .i64 0, .int .i64 0, .slice none 0 0] 70)) := hb1.alloc hb1.size _
  have hX9 := Bk.fresh w1 70 #[.int .i64 0, .int .i64 0, .int .i64 0, .slice none 0 0]
  go_wp2_with (fail)
  obtain ⟨b9, hb9⟩ : ∃ b, w1.heap.size = b := ⟨_, rfl⟩
  obtain ⟨W, hW⟩ : ∃ W, w1.alloc (.cells #[.int .i64 0, .int .i64 0, .int .i64 0, .slice none 0 0] 70) = W := ⟨_, rfl⟩
  rw [hb9, hW] at hX9
  rw [hW] at hB1 ⊢
  try rw [hb9]
  clear hW hb1
  have hD := h.out.kept hB1
  have f0 := hD.bk.cell 0
  simp at f0
  replace hD := Lib.hid hD
  replace hB1 := Lib.hid hB1
  replace hX9 := Lib.hid hX9
  replace hb9 := Lib.hid hb9
  refine (rwants_0 W).mono ?_
  rintro e w2 ⟨rfl, hw2⟩
  replace hw2 := hw2.symm
  subst hw2
  go_wp2_with (fail)
  go_loopw [13, 14] (fun x13 x14 wr => ∃ j : Nat, Hid (x13 = .int .i64 (lastV (X.map Prod.fst) j)) ∧ x14 = .int .i64 j ∧ j ≤ n ∧ wr = W) (fun _ x14 _ => n - (intOf x14).toNat)
  case atStart => exact ⟨0, rfl, rfl, by omega, rfl⟩
  case round =>
    obtain ⟨j, hx13, rfl, hj, rfl⟩ := hrel
    have j0 : (0 : Int) ≤ j := by omega
    by_cases hjn : j < n
    · have hjz := hjn
      have j1 : (j : Int) < n := by omega
      obtain ⟨g, hg⟩ : ∃ g, A = some ⟨g, 0, none⟩ := by
        obtain ⟨g, c2, e, _⟩ := hD.out.rw.form (by rw [hn.out]; omega)
        injection e with e1 _ _
        exact ⟨g, e1⟩
      subst hg
      obtain ⟨x, hx⟩ : ∃ x, X[j]? = some x := ⟨_, List.getElem?_eq_getElem (by have := hn.out; omega)⟩
      have hTd := Rwd.tp (c := c) (by have := hD.out.rw; rw [← hn.out] at this; exact this) j x hx
      have t0 := hTd.c0
      have hget := getD_th X j x hx
      replace hTd := Lib.hid hTd
      replace hx := Lib.hid hx
      by_cases hk : x.1.k = 4
      · have z : ((x.1.k : Int) == 4) = true := by simp [hk]
        have hlv := lastV_yes (X.map Prod.fst) j (by rw [hget]; exact hk)
        obtain ⟨kk, hkk⟩ : ∃ kk : Int, (x.1.k : Int) = kk := ⟨_, rfl⟩
        rw [hkk] at z t0
        replace hkk := Lib.hid hkk
        replace hlv := Lib.hid hlv
        clear hk hget
        go_wp2_with (fail)
        exact ⟨⟨j + 1, Lib.hid (by rw [hlv.out]), rfl, by omega, (by first | trivial | rfl)⟩, by simp [intOf]; omega⟩
      · have z : ((x.1.k : Int) == 4) = false := by simp; omega
        have hlv := lastV_no (X.map Prod.fst) j (by rw [hget]; exact hk)
        obtain ⟨kk, hkk⟩ : ∃ kk : Int, (x.1.k : Int) = kk := ⟨_, rfl⟩
        rw [hkk] at z t0
        replace hkk := Lib.hid hkk
        replace hlv := Lib.hid hlv
        clear hk hget
        go_wp2_with (fail)
        exact ⟨⟨j + 1, Lib.hid (by rw [hlv.out]; exact hx13.out), rfl, by omega, (by first | trivial | rfl)⟩, by simp [intOf]; omega⟩
    · have e : j = n := by omega
      subst e
      have j1 : ¬ (j : Int) < j := by omega
      clear hjn
      by_cases h16 : j = 16
      · subst h16
        go_wp2_with (fail)
        go_returns
        exact ddone_bel h.out hB1.out (by unfold Go.Proofs.Ytmfffaocmboelaa.step; rw [if_neg (by decide), if_neg (fun h => absurd rfl h.1)]; simp only [eff]; rw [if_pos (by rw [List.length_map, hn.out])])
      · have z16 : ¬ (16 : Int) ≤ j := by omega
        go_wp2_with (fail)
        obtain ⟨wb, hwb⟩ : ∃ wb, wr.alloc (.cells #[.int .i64 5] 3) = wb := ⟨_, rfl⟩
        have hK8 := Bk.fresh wr 3 #[.int .i64 5]
        have hBw : Below wr.heap.size wr (wr.alloc (.cells #[.int .i64 5] 3)) := (Below.refl _ _).alloc (Nat.le_refl _) _
        rw [hwb] at hK8 hBw
        have hB2 := hB1.out.trans (hBw.mono hB1.out.size)
        have hD2 := hD.out.kept hBw
        have hX2 := hX9.out.kept hBw hX9.out.lt
        refine (rlays_0 wr).mono ?_
        rintro e w2 ⟨rfl, hw2⟩
        rw [hwb] at hw2
        replace hw2 := hw2.symm
        subst hw2
        obtain ⟨b8, hb8⟩ : ∃ b, wr.heap.size = b := ⟨_, rfl⟩
        rw [hb8] at hK8 ⊢
        obtain ⟨ol, hol⟩ : ∃ ol : List Int, [5] = ol := ⟨_, rfl⟩
        have hol0 : ol.length = 1 := by rw [← hol]; rfl
        rw [show (#[.int .i64 5] : Array Value) = (i64s [5]).toArray from rfl, hol] at hK8
        replace hK8 := Lib.hid hK8
        replace hB2 := Lib.hid hB2
        replace hD2 := Lib.hid hD2
        replace hX2 := Lib.hid hX2
        replace hol := Lib.hid hol
        replace hol0 := Lib.hid hol0
        clear hBw hwb f0 hb8
        go_wp2_with (fail)
        go_loopw [16, 18] (fun x16 x18 wi => ∃ (k : Nat) (A4 : Option Addr) (c4 : Nat), x16 = .slice A4 k c4 ∧ x18 = .int .i64 k ∧ k ≤ 1 ∧ wi.ownsRow wb.heap.size 54 4 (.slice A4 k c4) k (actC (layO here 0 (ol.take k))) ∧ Below wb.heap.size wb wi) (fun _ x18 _ => 1 - (intOf x18).toNat)
        case atStart => exact ⟨0, none, 0, rfl, rfl, by omega, World.ownsRow_nil _ _ _ _, Below.refl _ _⟩
        case round =>
          obtain ⟨k, A4, c4, rfl, rfl, hk, hrow, hBi⟩ := hrel
          by_cases hkl : k < 1
          · have hkz := hkl
            have k0 : (0 : Int) ≤ k := by omega
            have k1 : (k : Int) < 1 := by omega
            obtain ⟨o, ho⟩ : ∃ o, ol[k]? = some o := ⟨_, List.getElem?_eq_getElem (by rw [hol0.out]; exact hkl)⟩
            have c0 : wr.cell? ⟨b8, k, none⟩ = some (.int .i64 o) := by
              have hb := hK8.out.kept hBi hK8.out.lt
              rw [hb.cell k]
              simp [i64s, ho]
            have htk : ol.take (k + 1) = ol.take k ++ [o] := by
              obtain ⟨hk3, rfl⟩ := List.getElem?_eq_some_iff.1 ho
              exact List.take_succ_eq_append_getElem hk3
            have hlen : (layO here 0 (ol.take k)).length = k := by rw [layO_len, List.length_take, hol0.out]; omega
            have hsn := layO_snoc here o (ol.take k) 0
            rw [← htk, List.length_take, hol0.out, show 0 + min k 1 = k by omega] at hsn
            have e8 : IntKind.i64.wrap (8 * (k : Int)) = 8 * k := by rw [IntKind.wrap_i64]; omega
            rw [e8] at hsn
            obtain ⟨z, hz⟩ : ∃ z, IntKind.i64.wrap (here + 8 * (k : Int)) = z := ⟨_, rfl⟩
            rw [hz] at hsn
            obtain ⟨A5, c5, w5, hrun, hown, hgr⟩ := dact_append (w := wr) (base := wb.heap.size) ⟨false, z, o, 0⟩ (by rw [hlen]; exact hrow) hBi.size (by rw [hlen]; omega)
            rw [← hsn, layO_len, List.length_take, hol0.out, show min (k + 1) 1 = k + 1 by omega] at hrun hown
            have hB5 : Below wb.heap.size wb w5 := below_grown hBi hgr hBi.size (fun q hq => by have := own_ge hrow q hq; omega)
            replace hrun := Lib.hid hrun
            replace hown := Lib.hid hown
            replace hB5 := Lib.hid hB5
            replace ho := Lib.hid ho
            replace hrow := Lib.hid hrow
            replace hBi := Lib.hid hBi
            clear hgr hsn hlen htk
            go_wp2_with (at_builtin; refine wpList_append_run rfl (.tmp 103) (.tmp 113) 49 rfl (.slice A4 k c4) _ _ rfl rfl hrun.out ?_)
            exact ⟨⟨k + 1, A5, c5, rfl, rfl, by omega, hown.out, hB5.out⟩, by simp [intOf]; omega⟩
          · obtain rfl : k = 1 := by omega
            have hta : ol.take 1 = ol := List.take_of_length_le (by rw [hol0.out]; exact Nat.le_refl _)
            rw [hta] at hrow
            have hDi := hD2.out.kept hBi
            have hBB : Below w.heap.size w wr := hB2.out.trans (hBi.mono hB2.out.size)
            have hy8 : IntKind.i64.wrap (here + 8) = nxt here := rfl
            have hy16 : IntKind.i64.wrap (here + 16) = nxt (nxt here) := by unfold nxt; rw [IntKind.wrap_i64, IntKind.wrap_i64, IntKind.wrap_i64]; omega
            have hy32 : IntKind.i64.wrap (here + 32) = nxt (nxt (nxt (nxt here))) := by unfold nxt; rw [IntKind.wrap_i64, IntKind.wrap_i64, IntKind.wrap_i64, IntKind.wrap_i64, IntKind.wrap_i64]; omega
            have hacts : layO here 0 ol = (eff (X.map Prod.fst) 0 here).acts := by
              rw [← hol.out]
              simp only [layO, Nat.zero_add, lay_0 here hh.out, lay_1 here, lay_2 here, lay_3 here, eff]
            obtain ⟨A', c', w4, hrun, hR4, hO4, hgr4⟩ := hDi.rw.push (⟨1, here, 0, []⟩, .slice none 0 0) (World.ownsRow_nil _ _ _ _) (B := w.heap.size) hBB.size (fun q hq => by simp [Value.ownBlock] at hq) (by have := hn.out; omega)
            rw [hn.out] at hrun
            have hF4 : Bk w4 F _ _ := hO4.bk hDi.bk (fun hk => hk.elim h.out.out (fun hk => by have := h.out.bk.lt; omega))
            have f0 := hDi.bk.cell 0; simp at f0
            have g0 := hF4.cell 0
            simp at g0
            have g1 := hF4.free 0
            try simp only at hrun
            have hF5 := hF4.put 0 (.slice A' (j + 1) c')
            have hOF : Onl (fun k => k = F) w4 (w4.setCell ⟨F, 0, none⟩ (.slice A' (j + 1) c')) := (Onl.refl (fun k => k = F) w4).put (p := ⟨F, 0, none⟩) (.inl rfl) _
            have hR5 := hR4.frame hOF (fun k hk e => by subst e; exact hk.elim h.out.out (fun hk => by have := h.out.bk.lt; omega))
            have hrow4 := hrow.kept hgr4 (own_far hrow hDi.rw.row (by decide))
            have hrow5 := hOF.row hrow4 (fun q hq e => by have := own_ge hrow4 q hq; have := h.out.bk.lt; have := hB2.out.size; omega)
            obtain ⟨y1, hy1⟩ : ∃ y, nxt here = y := ⟨_, rfl⟩
            obtain ⟨y2, hy2⟩ : ∃ y, nxt (nxt here) = y := ⟨_, rfl⟩
            obtain ⟨y4, hy4⟩ : ∃ y, nxt (nxt (nxt (nxt here))) = y := ⟨_, rfl⟩
            rw [hy2] at hy16
            rw [hy4] at hy32
            rw [hy1] at hy8
            try rw [hy1] at hrun
            replace hrun := Lib.hid hrun
            replace hR5 := Lib.hid hR5
            replace hO4 := Lib.hid hO4
            replace hF5 := Lib.hid hF5
            replace hOF := Lib.hid hOF
            replace hrow5 := Lib.hid hrow5
            replace hBB := Lib.hid hBB
            replace hacts := Lib.hid hacts
            replace hy1 := Lib.hid hy1
            replace hy2 := Lib.hid hy2
            replace hy4 := Lib.hid hy4
            clear hgr4 hF4 hR4 hrow hrow4 hBi hDi hta
            skip
            go_wp2_with (at_builtin; refine wpList_append_run rfl (.tmp 132) (.tmp 135) 43 rfl (.slice A j c) _ _ rfl rfl hrun.out ?_)
            go_returns
            have hst : Go.Proofs.Ytmfffaocmboelaa.step (X.map Prod.fst) 0 here = ⟨0, layO here 0 ol, X.map Prod.fst ++ [⟨1, here, 0, []⟩]⟩ := by
              rw [hacts.out]
              unfold Go.Proofs.Ytmfffaocmboelaa.step
              rw [if_neg (by decide), if_neg (fun h => absurd rfl h.1)]
              simp only [eff]
              rw [if_neg (by rw [List.length_map, hn.out]; exact h16)]
            rw [hst]
            refine ⟨.slice A4 1 c4, .slice A' (j + 1) c', X ++ [(⟨1, here, 0, []⟩, .slice none 0 0)], rfl, ?_, hF5.out, ?_, ?_, ?_⟩
            · have := own_base hrow5.out hB2.out.size
              rw [layO_len, hol0.out]
              exact this
            · have := hR5.out
              rw [List.length_append, hn.out] at this
              exact this
            · simp
            · exact (Onl.of_below (s := fun k => k = F ∨ own k ∨ w.heap.size ≤ k) hBB.out (fun k hk _ => hk)).trans ((hO4.out.grow (fun k _ hk => .inr hk)).trans (hOF.out.grow (fun k _ hk => .inl hk)))
set_option maxHeartbeats 2000000 in
set_option maxRecDepth 100000 in
theorem dword_3 (s : ByteArray) (here : Int) (h : Dl w F own v X) (hs : s.size ≤ maxLen) (hr : row s = 3) (hh : -9223372036854775808 ≤ here ∧ here ≤ 9223372036854775807) :
    Calls Try.prog 15 #[.pointer (some ⟨F, 0, none⟩), .string s, .int .i64 here] w fun e w' => Ddone w w' F own (Go.Proofs.Ytmfffaocmboelaa.step (X.map Prod.fst) (row s) here) e := by
  have hrr := rrow_any s w hs
  rw [hr, if_neg (by decide), show ((3 : Nat) : Int) = 3 from rfl] at hrr
  rw [hr]
  obtain ⟨A, c, hv⟩ := own_form h.rw.row
  obtain ⟨n, hn⟩ : ∃ n, X.length = n := ⟨_, rfl⟩
  rw [hn] at hv
  have hln := h.len
  rw [hn] at hln
  have i16 : (n : Int) ≤ 16 := by omega
  subst hv
  replace hrr := Lib.hid hrr
  replace h := Lib.hid h
  replace hn := Lib.hid hn
  replace hh := Lib.hid hh
  go_enter Try.func15, Try.ntmps15
  go_wp2_with (fail)
  refine hrr.out.mono ?_
  rintro e w1 ⟨rfl, hb1⟩
  have hB1 : Below w.heap.size w (w1.alloc (.cells #[.int .i64 0, .int .i64 0, .int .i64 0, .slice none 0 0] 70)) := hb1.alloc hb1.size _
  have hX9 := Bk.fresh w1 70 #[.int .i64 0, .int .i64 0, .int .i64 0, .slice none 0 0]
  go_wp2_with (fail)
  obtain ⟨b9, hb9⟩ : ∃ b, w1.heap.size = b := ⟨_, rfl⟩
  obtain ⟨W, hW⟩ : ∃ W, w1.alloc (.cells #[.int .i64 0, .int .i64 0, .int .i64 0, .slice none 0 0] 70) = W := ⟨_, rfl⟩
  rw [hb9, hW] at hX9
  rw [hW] at hB1 ⊢
  try rw [hb9]
  clear hW hb1
  have hD := h.out.kept hB1
  have f0 := hD.bk.cell 0
  simp at f0
  replace hD := Lib.hid hD
  replace hB1 := Lib.hid hB1
  replace hX9 := Lib.hid hX9
  replace hb9 := Lib.hid hb9
  refine (rwants_3 W).mono ?_
  rintro e w2 ⟨rfl, hw2⟩
  replace hw2 := hw2.symm
  subst hw2
  go_wp2_with (fail)
  go_loopw [13, 14] (fun x13 x14 wr => ∃ j : Nat, Hid (x13 = .int .i64 (lastV (X.map Prod.fst) j)) ∧ x14 = .int .i64 j ∧ j ≤ n ∧ wr = W) (fun _ x14 _ => n - (intOf x14).toNat)
  case atStart => exact ⟨0, rfl, rfl, by omega, rfl⟩
  case round =>
    obtain ⟨j, hx13, rfl, hj, rfl⟩ := hrel
    have j0 : (0 : Int) ≤ j := by omega
    by_cases hjn : j < n
    · have hjz := hjn
      have j1 : (j : Int) < n := by omega
      obtain ⟨g, hg⟩ : ∃ g, A = some ⟨g, 0, none⟩ := by
        obtain ⟨g, c2, e, _⟩ := hD.out.rw.form (by rw [hn.out]; omega)
        injection e with e1 _ _
        exact ⟨g, e1⟩
      subst hg
      obtain ⟨x, hx⟩ : ∃ x, X[j]? = some x := ⟨_, List.getElem?_eq_getElem (by have := hn.out; omega)⟩
      have hTd := Rwd.tp (c := c) (by have := hD.out.rw; rw [← hn.out] at this; exact this) j x hx
      have t0 := hTd.c0
      have hget := getD_th X j x hx
      replace hTd := Lib.hid hTd
      replace hx := Lib.hid hx
      by_cases hk : x.1.k = 4
      · have z : ((x.1.k : Int) == 4) = true := by simp [hk]
        have hlv := lastV_yes (X.map Prod.fst) j (by rw [hget]; exact hk)
        obtain ⟨kk, hkk⟩ : ∃ kk : Int, (x.1.k : Int) = kk := ⟨_, rfl⟩
        rw [hkk] at z t0
        replace hkk := Lib.hid hkk
        replace hlv := Lib.hid hlv
        clear hk hget
        go_wp2_with (fail)
        exact ⟨⟨j + 1, Lib.hid (by rw [hlv.out]), rfl, by omega, (by first | trivial | rfl)⟩, by simp [intOf]; omega⟩
      · have z : ((x.1.k : Int) == 4) = false := by simp; omega
        have hlv := lastV_no (X.map Prod.fst) j (by rw [hget]; exact hk)
        obtain ⟨kk, hkk⟩ : ∃ kk : Int, (x.1.k : Int) = kk := ⟨_, rfl⟩
        rw [hkk] at z t0
        replace hkk := Lib.hid hkk
        replace hlv := Lib.hid hlv
        clear hk hget
        go_wp2_with (fail)
        exact ⟨⟨j + 1, Lib.hid (by rw [hlv.out]; exact hx13.out), rfl, by omega, (by first | trivial | rfl)⟩, by simp [intOf]; omega⟩
    · have e : j = n := by omega
      subst e
      have j1 : ¬ (j : Int) < j := by omega
      clear hjn
      by_cases h16 : j = 16
      · subst h16
        go_wp2_with (fail)
        go_returns
        exact ddone_bel h.out hB1.out (by unfold Go.Proofs.Ytmfffaocmboelaa.step; rw [if_neg (by decide), if_neg (fun h => absurd rfl h.1)]; simp only [eff]; rw [if_pos (by rw [List.length_map, hn.out])])
      · have z16 : ¬ (16 : Int) ≤ j := by omega
        go_wp2_with (fail)
        refine (rlays_3 wr).mono ?_
        rintro e w2 ⟨rfl, hw2⟩
        replace hw2 := hw2.symm
        subst hw2
        go_wp2_with (fail)
        go_loopw [16, 18] (fun x16 x18 wi => x16 = .slice none 0 0 ∧ x18 = .int .i64 0 ∧ wi = wr) (fun _ _ _ => 0)
        case atStart => exact ⟨rfl, rfl, rfl⟩
        case round =>
          obtain ⟨rfl, rfl, hwi⟩ := hrel
          subst hwi
          obtain ⟨A', c', w4, hrun, hR4, hO4, hgr4⟩ := hD.out.rw.push (⟨2, here, 0, []⟩, .slice none 0 0) (World.ownsRow_nil _ _ _ _) (B := w.heap.size) hB1.out.size (fun q hq => by simp [Value.ownBlock] at hq) (by have := hn.out; omega)
          rw [hn.out] at hrun
          have hF4 : Bk w4 F _ _ := hO4.bk hD.out.bk (fun hk => hk.elim h.out.out (fun hk => by have := h.out.bk.lt; omega))
          have g0 := hF4.cell 0
          simp at g0
          have g1 := hF4.free 0
          have e8 : IntKind.i64.wrap (8 * (0 : Int)) = 0 := by decide
          have e9 : IntKind.i64.wrap (here + 0) = here := by rw [wrap_in _ (by have := hh.out; omega)]; omega
          simp only at hrun
          have hF5 := hF4.put 0 (.slice A' (j + 1) c')
          have hOF : Onl (fun k => k = F) w4 (w4.setCell ⟨F, 0, none⟩ (.slice A' (j + 1) c')) := (Onl.refl (fun k => k = F) w4).put (p := ⟨F, 0, none⟩) (.inl rfl) _
          have hR5 := hR4.frame hOF (fun k hk e => by subst e; exact hk.elim h.out.out (fun hk => by have := h.out.bk.lt; omega))
          replace hrun := Lib.hid hrun
          replace hR5 := Lib.hid hR5
          replace hO4 := Lib.hid hO4
          replace hF5 := Lib.hid hF5
          replace hOF := Lib.hid hOF
          clear hgr4 hF4 hR4
          go_wp2_with (at_builtin; refine wpList_append_run rfl (.tmp 182) (.tmp 185) 43 rfl (.slice A j c) _ _ rfl rfl hrun.out ?_)
          go_returns
          have hst : Go.Proofs.Ytmfffaocmboelaa.step (X.map Prod.fst) 3 here = ⟨0, [], X.map Prod.fst ++ [⟨2, here, 0, []⟩]⟩ := by
            unfold Go.Proofs.Ytmfffaocmboelaa.step
            rw [if_neg (by decide), if_neg (fun h => absurd rfl h.1)]
            simp only [eff]
            rw [if_neg (by rw [List.length_map, hn.out]; exact h16)]
          rw [hst]
          refine ⟨.slice none 0 0, .slice A' (j + 1) c', X ++ [(⟨2, here, 0, []⟩, .slice none 0 0)], rfl, World.ownsRow_nil _ _ _ _, hF5.out, ?_, ?_, ?_⟩
          · have := hR5.out
            rw [List.length_append, hn.out] at this
            exact this
          · simp
          · exact (Onl.of_below (s := fun k => k = F ∨ own k ∨ w.heap.size ≤ k) hB1.out (fun k hk _ => hk)).trans ((hO4.out.grow (fun k _ hk => .inr hk)).trans (hOF.out.grow (fun k _ hk => .inl hk)))
set_option maxHeartbeats 2000000 in
set_option maxRecDepth 100000 in
theorem dword_8 (s : ByteArray) (here : Int) (h : Dl w F own v X) (hs : s.size ≤ maxLen) (hr : row s = 8) (hh : -9223372036854775808 ≤ here ∧ here ≤ 9223372036854775807) :
    Calls Try.prog 15 #[.pointer (some ⟨F, 0, none⟩), .string s, .int .i64 here] w fun e w' => Ddone w w' F own (Go.Proofs.Ytmfffaocmboelaa.step (X.map Prod.fst) (row s) here) e := by
  have hrr := rrow_any s w hs
  rw [hr, if_neg (by decide), show ((8 : Nat) : Int) = 8 from rfl] at hrr
  rw [hr]
  obtain ⟨A, c, hv⟩ := own_form h.rw.row
  obtain ⟨n, hn⟩ : ∃ n, X.length = n := ⟨_, rfl⟩
  rw [hn] at hv
  have hln := h.len
  rw [hn] at hln
  have i16 : (n : Int) ≤ 16 := by omega
  subst hv
  replace hrr := Lib.hid hrr
  replace h := Lib.hid h
  replace hn := Lib.hid hn
  replace hh := Lib.hid hh
  go_enter Try.func15, Try.ntmps15
  go_wp2_with (fail)
  refine hrr.out.mono ?_
  rintro e w1 ⟨rfl, hb1⟩
  have hB1 : Below w.heap.size w (w1.alloc (.cells #[.int .i64 0, .int .i64 0, .int .i64 0, .slice none 0 0] 70)) := hb1.alloc hb1.size _
  have hX9 := Bk.fresh w1 70 #[.int .i64 0, .int .i64 0, .int .i64 0, .slice none 0 0]
  go_wp2_with (fail)
  obtain ⟨b9, hb9⟩ : ∃ b, w1.heap.size = b := ⟨_, rfl⟩
  obtain ⟨W, hW⟩ : ∃ W, w1.alloc (.cells #[.int .i64 0, .int .i64 0, .int .i64 0, .slice none 0 0] 70) = W := ⟨_, rfl⟩
  rw [hb9, hW] at hX9
  rw [hW] at hB1 ⊢
  try rw [hb9]
  clear hW hb1
  have hD := h.out.kept hB1
  have f0 := hD.bk.cell 0
  simp at f0
  replace hD := Lib.hid hD
  replace hB1 := Lib.hid hB1
  replace hX9 := Lib.hid hX9
  replace hb9 := Lib.hid hb9
  refine (rwants_8 W).mono ?_
  rintro e w2 ⟨rfl, hw2⟩
  replace hw2 := hw2.symm
  subst hw2
  go_wp2_with (fail)
  go_loopw [13, 14] (fun x13 x14 wr => ∃ j : Nat, Hid (x13 = .int .i64 (lastV (X.map Prod.fst) j)) ∧ x14 = .int .i64 j ∧ j ≤ n ∧ wr = W) (fun _ x14 _ => n - (intOf x14).toNat)
  case atStart => exact ⟨0, rfl, rfl, by omega, rfl⟩
  case round =>
    obtain ⟨j, hx13, rfl, hj, rfl⟩ := hrel
    have j0 : (0 : Int) ≤ j := by omega
    by_cases hjn : j < n
    · have hjz := hjn
      have j1 : (j : Int) < n := by omega
      obtain ⟨g, hg⟩ : ∃ g, A = some ⟨g, 0, none⟩ := by
        obtain ⟨g, c2, e, _⟩ := hD.out.rw.form (by rw [hn.out]; omega)
        injection e with e1 _ _
        exact ⟨g, e1⟩
      subst hg
      obtain ⟨x, hx⟩ : ∃ x, X[j]? = some x := ⟨_, List.getElem?_eq_getElem (by have := hn.out; omega)⟩
      have hTd := Rwd.tp (c := c) (by have := hD.out.rw; rw [← hn.out] at this; exact this) j x hx
      have t0 := hTd.c0
      have hget := getD_th X j x hx
      replace hTd := Lib.hid hTd
      replace hx := Lib.hid hx
      by_cases hk : x.1.k = 4
      · have z : ((x.1.k : Int) == 4) = true := by simp [hk]
        have hlv := lastV_yes (X.map Prod.fst) j (by rw [hget]; exact hk)
        obtain ⟨kk, hkk⟩ : ∃ kk : Int, (x.1.k : Int) = kk := ⟨_, rfl⟩
        rw [hkk] at z t0
        replace hkk := Lib.hid hkk
        replace hlv := Lib.hid hlv
        clear hk hget
        go_wp2_with (fail)
        exact ⟨⟨j + 1, Lib.hid (by rw [hlv.out]), rfl, by omega, (by first | trivial | rfl)⟩, by simp [intOf]; omega⟩
      · have z : ((x.1.k : Int) == 4) = false := by simp; omega
        have hlv := lastV_no (X.map Prod.fst) j (by rw [hget]; exact hk)
        obtain ⟨kk, hkk⟩ : ∃ kk : Int, (x.1.k : Int) = kk := ⟨_, rfl⟩
        rw [hkk] at z t0
        replace hkk := Lib.hid hkk
        replace hlv := Lib.hid hlv
        clear hk hget
        go_wp2_with (fail)
        exact ⟨⟨j + 1, Lib.hid (by rw [hlv.out]; exact hx13.out), rfl, by omega, (by first | trivial | rfl)⟩, by simp [intOf]; omega⟩
    · have e : j = n := by omega
      subst e
      have j1 : ¬ (j : Int) < j := by omega
      clear hjn
      by_cases h16 : j = 16
      · subst h16
        go_wp2_with (fail)
        go_returns
        exact ddone_bel h.out hB1.out (by unfold Go.Proofs.Ytmfffaocmboelaa.step; rw [if_neg (by decide), if_neg (fun h => absurd rfl h.1)]; simp only [eff]; rw [if_pos (by rw [List.length_map, hn.out])])
      · have z16 : ¬ (16 : Int) ≤ j := by omega
        go_wp2_with (fail)
        obtain ⟨wb, hwb⟩ : ∃ wb, wr.alloc (.cells #[.int .i64 6] 3) = wb := ⟨_, rfl⟩
        have hK8 := Bk.fresh wr 3 #[.int .i64 6]
        have hBw : Below wr.heap.size wr (wr.alloc (.cells #[.int .i64 6] 3)) := (Below.refl _ _).alloc (Nat.le_refl _) _
        rw [hwb] at hK8 hBw
        have hB2 := hB1.out.trans (hBw.mono hB1.out.size)
        have hD2 := hD.out.kept hBw
        have hX2 := hX9.out.kept hBw hX9.out.lt
        refine (rlays_8 wr).mono ?_
        rintro e w2 ⟨rfl, hw2⟩
        rw [hwb] at hw2
        replace hw2 := hw2.symm
        subst hw2
        obtain ⟨b8, hb8⟩ : ∃ b, wr.heap.size = b := ⟨_, rfl⟩
        rw [hb8] at hK8 ⊢
        obtain ⟨ol, hol⟩ : ∃ ol : List Int, [6] = ol := ⟨_, rfl⟩
        have hol0 : ol.length = 1 := by rw [← hol]; rfl
        rw [show (#[.int .i64 6] : Array Value) = (i64s [6]).toArray from rfl, hol] at hK8
        replace hK8 := Lib.hid hK8
        replace hB2 := Lib.hid hB2
        replace hD2 := Lib.hid hD2
        replace hX2 := Lib.hid hX2
        replace hol := Lib.hid hol
        replace hol0 := Lib.hid hol0
        clear hBw hwb f0 hb8
        go_wp2_with (fail)
        go_loopw [16, 18] (fun x16 x18 wi => ∃ (k : Nat) (A4 : Option Addr) (c4 : Nat), x16 = .slice A4 k c4 ∧ x18 = .int .i64 k ∧ k ≤ 1 ∧ wi.ownsRow wb.heap.size 54 4 (.slice A4 k c4) k (actC (layO here 0 (ol.take k))) ∧ Below wb.heap.size wb wi) (fun _ x18 _ => 1 - (intOf x18).toNat)
        case atStart => exact ⟨0, none, 0, rfl, rfl, by omega, World.ownsRow_nil _ _ _ _, Below.refl _ _⟩
        case round =>
          obtain ⟨k, A4, c4, rfl, rfl, hk, hrow, hBi⟩ := hrel
          by_cases hkl : k < 1
          · have hkz := hkl
            have k0 : (0 : Int) ≤ k := by omega
            have k1 : (k : Int) < 1 := by omega
            obtain ⟨o, ho⟩ : ∃ o, ol[k]? = some o := ⟨_, List.getElem?_eq_getElem (by rw [hol0.out]; exact hkl)⟩
            have c0 : wr.cell? ⟨b8, k, none⟩ = some (.int .i64 o) := by
              have hb := hK8.out.kept hBi hK8.out.lt
              rw [hb.cell k]
              simp [i64s, ho]
            have htk : ol.take (k + 1) = ol.take k ++ [o] := by
              obtain ⟨hk3, rfl⟩ := List.getElem?_eq_some_iff.1 ho
              exact List.take_succ_eq_append_getElem hk3
            have hlen : (layO here 0 (ol.take k)).length = k := by rw [layO_len, List.length_take, hol0.out]; omega
            have hsn := layO_snoc here o (ol.take k) 0
            rw [← htk, List.length_take, hol0.out, show 0 + min k 1 = k by omega] at hsn
            have e8 : IntKind.i64.wrap (8 * (k : Int)) = 8 * k := by rw [IntKind.wrap_i64]; omega
            rw [e8] at hsn
            obtain ⟨z, hz⟩ : ∃ z, IntKind.i64.wrap (here + 8 * (k : Int)) = z := ⟨_, rfl⟩
            rw [hz] at hsn
            obtain ⟨A5, c5, w5, hrun, hown, hgr⟩ := dact_append (w := wr) (base := wb.heap.size) ⟨false, z, o, 0⟩ (by rw [hlen]; exact hrow) hBi.size (by rw [hlen]; omega)
            rw [← hsn, layO_len, List.length_take, hol0.out, show min (k + 1) 1 = k + 1 by omega] at hrun hown
            have hB5 : Below wb.heap.size wb w5 := below_grown hBi hgr hBi.size (fun q hq => by have := own_ge hrow q hq; omega)
            replace hrun := Lib.hid hrun
            replace hown := Lib.hid hown
            replace hB5 := Lib.hid hB5
            replace ho := Lib.hid ho
            replace hrow := Lib.hid hrow
            replace hBi := Lib.hid hBi
            clear hgr hsn hlen htk
            go_wp2_with (at_builtin; refine wpList_append_run rfl (.tmp 103) (.tmp 113) 49 rfl (.slice A4 k c4) _ _ rfl rfl hrun.out ?_)
            exact ⟨⟨k + 1, A5, c5, rfl, rfl, by omega, hown.out, hB5.out⟩, by simp [intOf]; omega⟩
          · obtain rfl : k = 1 := by omega
            have hta : ol.take 1 = ol := List.take_of_length_le (by rw [hol0.out]; exact Nat.le_refl _)
            rw [hta] at hrow
            have hDi := hD2.out.kept hBi
            have hBB : Below w.heap.size w wr := hB2.out.trans (hBi.mono hB2.out.size)
            have hy8 : IntKind.i64.wrap (here + 8) = nxt here := rfl
            have hy16 : IntKind.i64.wrap (here + 16) = nxt (nxt here) := by unfold nxt; rw [IntKind.wrap_i64, IntKind.wrap_i64, IntKind.wrap_i64]; omega
            have hy32 : IntKind.i64.wrap (here + 32) = nxt (nxt (nxt (nxt here))) := by unfold nxt; rw [IntKind.wrap_i64, IntKind.wrap_i64, IntKind.wrap_i64, IntKind.wrap_i64, IntKind.wrap_i64]; omega
            have hacts : layO here 0 ol = (eff (X.map Prod.fst) 8 here).acts := by
              rw [← hol.out]
              simp only [layO, Nat.zero_add, lay_0 here hh.out, lay_1 here, lay_2 here, lay_3 here, eff]
            obtain ⟨A', c', w4, hrun, hR4, hO4, hgr4⟩ := hDi.rw.push (⟨4, nxt here, 0, []⟩, .slice none 0 0) (World.ownsRow_nil _ _ _ _) (B := w.heap.size) hBB.size (fun q hq => by simp [Value.ownBlock] at hq) (by have := hn.out; omega)
            rw [hn.out] at hrun
            have hF4 : Bk w4 F _ _ := hO4.bk hDi.bk (fun hk => hk.elim h.out.out (fun hk => by have := h.out.bk.lt; omega))
            have f0 := hDi.bk.cell 0; simp at f0
            have g0 := hF4.cell 0
            simp at g0
            have g1 := hF4.free 0
            try simp only at hrun
            have hF5 := hF4.put 0 (.slice A' (j + 1) c')
            have hOF : Onl (fun k => k = F) w4 (w4.setCell ⟨F, 0, none⟩ (.slice A' (j + 1) c')) := (Onl.refl (fun k => k = F) w4).put (p := ⟨F, 0, none⟩) (.inl rfl) _
            have hR5 := hR4.frame hOF (fun k hk e => by subst e; exact hk.elim h.out.out (fun hk => by have := h.out.bk.lt; omega))
            have hrow4 := hrow.kept hgr4 (own_far hrow hDi.rw.row (by decide))
            have hrow5 := hOF.row hrow4 (fun q hq e => by have := own_ge hrow4 q hq; have := h.out.bk.lt; have := hB2.out.size; omega)
            obtain ⟨y1, hy1⟩ : ∃ y, nxt here = y := ⟨_, rfl⟩
            obtain ⟨y2, hy2⟩ : ∃ y, nxt (nxt here) = y := ⟨_, rfl⟩
            obtain ⟨y4, hy4⟩ : ∃ y, nxt (nxt (nxt (nxt here))) = y := ⟨_, rfl⟩
            rw [hy2] at hy16
            rw [hy4] at hy32
            rw [hy1] at hy8
            try rw [hy1] at hrun
            replace hrun := Lib.hid hrun
            replace hR5 := Lib.hid hR5
            replace hO4 := Lib.hid hO4
            replace hF5 := Lib.hid hF5
            replace hOF := Lib.hid hOF
            replace hrow5 := Lib.hid hrow5
            replace hBB := Lib.hid hBB
            replace hacts := Lib.hid hacts
            replace hy1 := Lib.hid hy1
            replace hy2 := Lib.hid hy2
            replace hy4 := Lib.hid hy4
            clear hgr4 hF4 hR4 hrow hrow4 hBi hDi hta
            skip
            go_wp2_with (at_builtin; refine wpList_append_run rfl (.tmp 250) (.tmp 253) 43 rfl (.slice A j c) _ _ rfl rfl hrun.out ?_)
            go_returns
            have hst : Go.Proofs.Ytmfffaocmboelaa.step (X.map Prod.fst) 8 here = ⟨0, layO here 0 ol, X.map Prod.fst ++ [⟨4, nxt here, 0, []⟩]⟩ := by
              rw [hacts.out]
              unfold Go.Proofs.Ytmfffaocmboelaa.step
              rw [if_neg (by decide), if_neg (fun h => absurd rfl h.1)]
              simp only [eff]
              rw [if_neg (by rw [List.length_map, hn.out]; exact h16)]
            rw [hst]
            refine ⟨.slice A4 1 c4, .slice A' (j + 1) c', X ++ [(⟨4, nxt here, 0, []⟩, .slice none 0 0)], rfl, ?_, hF5.out, ?_, ?_, ?_⟩
            · have := own_base hrow5.out hB2.out.size
              rw [layO_len, hol0.out]
              exact this
            · have := hR5.out
              rw [List.length_append, hn.out] at this
              exact this
            · simp
            · exact (Onl.of_below (s := fun k => k = F ∨ own k ∨ w.heap.size ≤ k) hBB.out (fun k hk _ => hk)).trans ((hO4.out.grow (fun k _ hk => .inr hk)).trans (hOF.out.grow (fun k _ hk => .inl hk)))
set_option maxHeartbeats 2000000 in
set_option maxRecDepth 100000 in
theorem dword_9 (s : ByteArray) (here : Int) (h : Dl w F own v X) (hs : s.size ≤ maxLen) (hr : row s = 9) (hh : -9223372036854775808 ≤ here ∧ here ≤ 9223372036854775807) :
    Calls Try.prog 15 #[.pointer (some ⟨F, 0, none⟩), .string s, .int .i64 here] w fun e w' => Ddone w w' F own (Go.Proofs.Ytmfffaocmboelaa.step (X.map Prod.fst) (row s) here) e := by
  have hrr := rrow_any s w hs
  rw [hr, if_neg (by decide), show ((9 : Nat) : Int) = 9 from rfl] at hrr
  rw [hr]
  obtain ⟨A, c, hv⟩ := own_form h.rw.row
  obtain ⟨n, hn⟩ : ∃ n, X.length = n := ⟨_, rfl⟩
  rw [hn] at hv
  have hln := h.len
  rw [hn] at hln
  have i16 : (n : Int) ≤ 16 := by omega
  subst hv
  replace hrr := Lib.hid hrr
  replace h := Lib.hid h
  replace hn := Lib.hid hn
  replace hh := Lib.hid hh
  go_enter Try.func15, Try.ntmps15
  go_wp2_with (fail)
  refine hrr.out.mono ?_
  rintro e w1 ⟨rfl, hb1⟩
  have hB1 : Below w.heap.size w (w1.alloc (.cells #[.int .i64 0, .int .i64 0, .int .i64 0, .slice none 0 0] 70)) := hb1.alloc hb1.size _
  have hX9 := Bk.fresh w1 70 #[.int .i64 0, .int .i64 0, .int .i64 0, .slice none 0 0]
  go_wp2_with (fail)
  obtain ⟨b9, hb9⟩ : ∃ b, w1.heap.size = b := ⟨_, rfl⟩
  obtain ⟨W, hW⟩ : ∃ W, w1.alloc (.cells #[.int .i64 0, .int .i64 0, .int .i64 0, .slice none 0 0] 70) = W := ⟨_, rfl⟩
  rw [hb9, hW] at hX9
  rw [hW] at hB1 ⊢
  try rw [hb9]
  clear hW hb1
  have hD := h.out.kept hB1
  have f0 := hD.bk.cell 0
  simp at f0
  replace hD := Lib.hid hD
  replace hB1 := Lib.hid hB1
  replace hX9 := Lib.hid hX9
  replace hb9 := Lib.hid hb9
  refine (rwants_9 W).mono ?_
  rintro e w2 ⟨rfl, hw2⟩
  replace hw2 := hw2.symm
  subst hw2
  go_wp2_with (fail)
  go_loopw [13, 14] (fun x13 x14 wr => ∃ j : Nat, Hid (x13 = .int .i64 (lastV (X.map Prod.fst) j)) ∧ x14 = .int .i64 j ∧ j ≤ n ∧ wr = W) (fun _ x14 _ => n - (intOf x14).toNat)
  case atStart => exact ⟨0, rfl, rfl, by omega, rfl⟩
  case round =>
    obtain ⟨j, hx13, rfl, hj, rfl⟩ := hrel
    have j0 : (0 : Int) ≤ j := by omega
    by_cases hjn : j < n
    · have hjz := hjn
      have j1 : (j : Int) < n := by omega
      obtain ⟨g, hg⟩ : ∃ g, A = some ⟨g, 0, none⟩ := by
        obtain ⟨g, c2, e, _⟩ := hD.out.rw.form (by rw [hn.out]; omega)
        injection e with e1 _ _
        exact ⟨g, e1⟩
      subst hg
      obtain ⟨x, hx⟩ : ∃ x, X[j]? = some x := ⟨_, List.getElem?_eq_getElem (by have := hn.out; omega)⟩
      have hTd := Rwd.tp (c := c) (by have := hD.out.rw; rw [← hn.out] at this; exact this) j x hx
      have t0 := hTd.c0
      have hget := getD_th X j x hx
      replace hTd := Lib.hid hTd
      replace hx := Lib.hid hx
      by_cases hk : x.1.k = 4
      · have z : ((x.1.k : Int) == 4) = true := by simp [hk]
        have hlv := lastV_yes (X.map Prod.fst) j (by rw [hget]; exact hk)
        obtain ⟨kk, hkk⟩ : ∃ kk : Int, (x.1.k : Int) = kk := ⟨_, rfl⟩
        rw [hkk] at z t0
        replace hkk := Lib.hid hkk
        replace hlv := Lib.hid hlv
        clear hk hget
        go_wp2_with (fail)
        exact ⟨⟨j + 1, Lib.hid (by rw [hlv.out]), rfl, by omega, (by first | trivial | rfl)⟩, by simp [intOf]; omega⟩
      · have z : ((x.1.k : Int) == 4) = false := by simp; omega
        have hlv := lastV_no (X.map Prod.fst) j (by rw [hget]; exact hk)
        obtain ⟨kk, hkk⟩ : ∃ kk : Int, (x.1.k : Int) = kk := ⟨_, rfl⟩
        rw [hkk] at z t0
        replace hkk := Lib.hid hkk
        replace hlv := Lib.hid hlv
        clear hk hget
        go_wp2_with (fail)
        exact ⟨⟨j + 1, Lib.hid (by rw [hlv.out]; exact hx13.out), rfl, by omega, (by first | trivial | rfl)⟩, by simp [intOf]; omega⟩
    · have e : j = n := by omega
      subst e
      have j1 : ¬ (j : Int) < j := by omega
      clear hjn
      by_cases h16 : j = 16
      · subst h16
        go_wp2_with (fail)
        go_returns
        exact ddone_bel h.out hB1.out (by unfold Go.Proofs.Ytmfffaocmboelaa.step; rw [if_neg (by decide), if_neg (fun h => absurd rfl h.1)]; simp only [eff]; rw [if_pos (by rw [List.length_map, hn.out])])
      · have z16 : ¬ (16 : Int) ≤ j := by omega
        go_wp2_with (fail)
        obtain ⟨wb, hwb⟩ : ∃ wb, wr.alloc (.cells #[.int .i64 7] 3) = wb := ⟨_, rfl⟩
        have hK8 := Bk.fresh wr 3 #[.int .i64 7]
        have hBw : Below wr.heap.size wr (wr.alloc (.cells #[.int .i64 7] 3)) := (Below.refl _ _).alloc (Nat.le_refl _) _
        rw [hwb] at hK8 hBw
        have hB2 := hB1.out.trans (hBw.mono hB1.out.size)
        have hD2 := hD.out.kept hBw
        have hX2 := hX9.out.kept hBw hX9.out.lt
        refine (rlays_9 wr).mono ?_
        rintro e w2 ⟨rfl, hw2⟩
        rw [hwb] at hw2
        replace hw2 := hw2.symm
        subst hw2
        obtain ⟨b8, hb8⟩ : ∃ b, wr.heap.size = b := ⟨_, rfl⟩
        rw [hb8] at hK8 ⊢
        obtain ⟨ol, hol⟩ : ∃ ol : List Int, [7] = ol := ⟨_, rfl⟩
        have hol0 : ol.length = 1 := by rw [← hol]; rfl
        rw [show (#[.int .i64 7] : Array Value) = (i64s [7]).toArray from rfl, hol] at hK8
        replace hK8 := Lib.hid hK8
        replace hB2 := Lib.hid hB2
        replace hD2 := Lib.hid hD2
        replace hX2 := Lib.hid hX2
        replace hol := Lib.hid hol
        replace hol0 := Lib.hid hol0
        clear hBw hwb f0 hb8
        go_wp2_with (fail)
        go_loopw [16, 18] (fun x16 x18 wi => ∃ (k : Nat) (A4 : Option Addr) (c4 : Nat), x16 = .slice A4 k c4 ∧ x18 = .int .i64 k ∧ k ≤ 1 ∧ wi.ownsRow wb.heap.size 54 4 (.slice A4 k c4) k (actC (layO here 0 (ol.take k))) ∧ Below wb.heap.size wb wi) (fun _ x18 _ => 1 - (intOf x18).toNat)
        case atStart => exact ⟨0, none, 0, rfl, rfl, by omega, World.ownsRow_nil _ _ _ _, Below.refl _ _⟩
        case round =>
          obtain ⟨k, A4, c4, rfl, rfl, hk, hrow, hBi⟩ := hrel
          by_cases hkl : k < 1
          · have hkz := hkl
            have k0 : (0 : Int) ≤ k := by omega
            have k1 : (k : Int) < 1 := by omega
            obtain ⟨o, ho⟩ : ∃ o, ol[k]? = some o := ⟨_, List.getElem?_eq_getElem (by rw [hol0.out]; exact hkl)⟩
            have c0 : wr.cell? ⟨b8, k, none⟩ = some (.int .i64 o) := by
              have hb := hK8.out.kept hBi hK8.out.lt
              rw [hb.cell k]
              simp [i64s, ho]
            have htk : ol.take (k + 1) = ol.take k ++ [o] := by
              obtain ⟨hk3, rfl⟩ := List.getElem?_eq_some_iff.1 ho
              exact List.take_succ_eq_append_getElem hk3
            have hlen : (layO here 0 (ol.take k)).length = k := by rw [layO_len, List.length_take, hol0.out]; omega
            have hsn := layO_snoc here o (ol.take k) 0
            rw [← htk, List.length_take, hol0.out, show 0 + min k 1 = k by omega] at hsn
            have e8 : IntKind.i64.wrap (8 * (k : Int)) = 8 * k := by rw [IntKind.wrap_i64]; omega
            rw [e8] at hsn
            obtain ⟨z, hz⟩ : ∃ z, IntKind.i64.wrap (here + 8 * (k : Int)) = z := ⟨_, rfl⟩
            rw [hz] at hsn
            obtain ⟨A5, c5, w5, hrun, hown, hgr⟩ := dact_append (w := wr) (base := wb.heap.size) ⟨false, z, o, 0⟩ (by rw [hlen]; exact hrow) hBi.size (by rw [hlen]; omega)
            rw [← hsn, layO_len, List.length_take, hol0.out, show min (k + 1) 1 = k + 1 by omega] at hrun hown
            have hB5 : Below wb.heap.size wb w5 := below_grown hBi hgr hBi.size (fun q hq => by have := own_ge hrow q hq; omega)
            replace hrun := Lib.hid hrun
            replace hown := Lib.hid hown
            replace hB5 := Lib.hid hB5
            replace ho := Lib.hid ho
            replace hrow := Lib.hid hrow
            replace hBi := Lib.hid hBi
            clear hgr hsn hlen htk
            go_wp2_with (at_builtin; refine wpList_append_run rfl (.tmp 103) (.tmp 113) 49 rfl (.slice A4 k c4) _ _ rfl rfl hrun.out ?_)
            exact ⟨⟨k + 1, A5, c5, rfl, rfl, by omega, hown.out, hB5.out⟩, by simp [intOf]; omega⟩
          · obtain rfl : k = 1 := by omega
            have hta : ol.take 1 = ol := List.take_of_length_le (by rw [hol0.out]; exact Nat.le_refl _)
            rw [hta] at hrow
            have hDi := hD2.out.kept hBi
            have hBB : Below w.heap.size w wr := hB2.out.trans (hBi.mono hB2.out.size)
            have hy8 : IntKind.i64.wrap (here + 8) = nxt here := rfl
            have hy16 : IntKind.i64.wrap (here + 16) = nxt (nxt here) := by unfold nxt; rw [IntKind.wrap_i64, IntKind.wrap_i64, IntKind.wrap_i64]; omega
            have hy32 : IntKind.i64.wrap (here + 32) = nxt (nxt (nxt (nxt here))) := by unfold nxt; rw [IntKind.wrap_i64, IntKind.wrap_i64, IntKind.wrap_i64, IntKind.wrap_i64, IntKind.wrap_i64]; omega
            have hacts : layO here 0 ol = (eff (X.map Prod.fst) 9 here).acts := by
              rw [← hol.out]
              simp only [layO, Nat.zero_add, lay_0 here hh.out, lay_1 here, lay_2 here, lay_3 here, eff]
            have f0 := hDi.bk.cell 0
            simp at f0
            have fq := (hDi.bk.past (.cells #[.int .i64 here] 3)).cell 0
            simp at fq
            have hrowq := hrow.alloc (.cells #[.int .i64 here] 3)
            have hmq := Bk.fresh wr 3 #[.int .i64 here]
            have hDq := hDi.kept (Below.refl wr.heap.size wr |>.alloc (Nat.le_refl _) (.cells #[.int .i64 here] 3))
            have hBq := hBB.alloc hBB.size (.cells #[.int .i64 here] 3)
            have hsq := hBB.size
            obtain ⟨m3, hm3⟩ : ∃ m3, Value.slice (some ⟨wr.heap.size, 0, none⟩) 1 1 = m3 := ⟨_, rfl⟩
            obtain ⟨A', c', w4, hrun, hR4, hO4, hgr4⟩ := hDq.rw.push (⟨4, nxt here, 0, [here]⟩, m3) (by rw [← hm3]; exact ⟨rfl, .inr ⟨wr.heap.size, 1, _, rfl, Nat.zero_le _, hmq, Nat.le_refl _, by decide, rfl, rfl⟩⟩) (B := w.heap.size) hBq.size (fun q hq => by
              rw [← hm3] at hq
              simp [Value.ownBlock] at hq
              subst hq
              exact ⟨hsq, fun ho => by have := h.out.old _ ho; omega⟩) (by have := hn.out; omega)
            simp only [World.size_alloc] at hrun
            rw [← hm3] at hrun
            replace hDi := hDq
            replace hBB := hBq
            replace hrow := hrowq
            rw [hn.out] at hrun
            have hF4 : Bk w4 F _ _ := hO4.bk hDi.bk (fun hk => hk.elim h.out.out (fun hk => by have := h.out.bk.lt; omega))
            skip
            have g0 := hF4.cell 0
            simp at g0
            have g1 := hF4.free 0
            try simp only at hrun
            have hF5 := hF4.put 0 (.slice A' (j + 1) c')
            have hOF : Onl (fun k => k = F) w4 (w4.setCell ⟨F, 0, none⟩ (.slice A' (j + 1) c')) := (Onl.refl (fun k => k = F) w4).put (p := ⟨F, 0, none⟩) (.inl rfl) _
            have hR5 := hR4.frame hOF (fun k hk e => by subst e; exact hk.elim h.out.out (fun hk => by have := h.out.bk.lt; omega))
            have hrow4 := hrow.kept hgr4 (own_far hrow hDi.rw.row (by decide))
            have hrow5 := hOF.row hrow4 (fun q hq e => by have := own_ge hrow4 q hq; have := h.out.bk.lt; have := hB2.out.size; omega)
            obtain ⟨y1, hy1⟩ : ∃ y, nxt here = y := ⟨_, rfl⟩
            obtain ⟨y2, hy2⟩ : ∃ y, nxt (nxt here) = y := ⟨_, rfl⟩
            obtain ⟨y4, hy4⟩ : ∃ y, nxt (nxt (nxt (nxt here))) = y := ⟨_, rfl⟩
            rw [hy2] at hy16
            rw [hy4] at hy32
            rw [hy1] at hy8
            try rw [hy1] at hrun
            replace hrun := Lib.hid hrun
            replace hR5 := Lib.hid hR5
            replace hO4 := Lib.hid hO4
            replace hF5 := Lib.hid hF5
            replace hOF := Lib.hid hOF
            replace hrow5 := Lib.hid hrow5
            replace hBB := Lib.hid hBB
            replace hacts := Lib.hid hacts
            replace hy1 := Lib.hid hy1
            replace hy2 := Lib.hid hy2
            replace hy4 := Lib.hid hy4
            clear hgr4 hF4 hR4 hrow hrow4 hBi hDi hta hmq hDq hBq hrowq hsq
            replace hm3 := Lib.hid hm3
            go_wp2_with (at_builtin; refine wpList_append_run rfl (.tmp 263) (.tmp 268) 43 rfl (.slice A j c) _ _ rfl rfl hrun.out ?_)
            go_returns
            have hst : Go.Proofs.Ytmfffaocmboelaa.step (X.map Prod.fst) 9 here = ⟨0, layO here 0 ol, X.map Prod.fst ++ [⟨4, nxt here, 0, [here]⟩]⟩ := by
              rw [hacts.out]
              unfold Go.Proofs.Ytmfffaocmboelaa.step
              rw [if_neg (by decide), if_neg (fun h => absurd rfl h.1)]
              simp only [eff]
              rw [if_neg (by rw [List.length_map, hn.out]; exact h16)]
            rw [hst]
            refine ⟨.slice A4 1 c4, .slice A' (j + 1) c', X ++ [(⟨4, nxt here, 0, [here]⟩, m3)], rfl, ?_, hF5.out, ?_, ?_, ?_⟩
            · have := own_base hrow5.out hB2.out.size
              rw [layO_len, hol0.out]
              exact this
            · have := hR5.out
              rw [List.length_append, hn.out] at this
              exact this
            · simp
            · exact (Onl.of_below (s := fun k => k = F ∨ own k ∨ w.heap.size ≤ k) hBB.out (fun k hk _ => hk)).trans ((hO4.out.grow (fun k _ hk => .inr hk)).trans (hOF.out.grow (fun k _ hk => .inl hk)))
set_option maxHeartbeats 2000000 in
set_option maxRecDepth 100000 in
theorem dword_13 (s : ByteArray) (here : Int) (h : Dl w F own v X) (hs : s.size ≤ maxLen) (hr : row s = 13) (hh : -9223372036854775808 ≤ here ∧ here ≤ 9223372036854775807) :
    Calls Try.prog 15 #[.pointer (some ⟨F, 0, none⟩), .string s, .int .i64 here] w fun e w' => Ddone w w' F own (Go.Proofs.Ytmfffaocmboelaa.step (X.map Prod.fst) (row s) here) e := by
  have hrr := rrow_any s w hs
  rw [hr, if_neg (by decide), show ((13 : Nat) : Int) = 13 from rfl] at hrr
  rw [hr]
  obtain ⟨A, c, hv⟩ := own_form h.rw.row
  obtain ⟨n, hn⟩ : ∃ n, X.length = n := ⟨_, rfl⟩
  rw [hn] at hv
  have hln := h.len
  rw [hn] at hln
  have i16 : (n : Int) ≤ 16 := by omega
  subst hv
  replace hrr := Lib.hid hrr
  replace h := Lib.hid h
  replace hn := Lib.hid hn
  replace hh := Lib.hid hh
  go_enter Try.func15, Try.ntmps15
  go_wp2_with (fail)
  refine hrr.out.mono ?_
  rintro e w1 ⟨rfl, hb1⟩
  have hB1 : Below w.heap.size w (w1.alloc (.cells #[.int .i64 0, .int .i64 0, .int .i64 0, .slice none 0 0] 70)) := hb1.alloc hb1.size _
  have hX9 := Bk.fresh w1 70 #[.int .i64 0, .int .i64 0, .int .i64 0, .slice none 0 0]
  go_wp2_with (fail)
  obtain ⟨b9, hb9⟩ : ∃ b, w1.heap.size = b := ⟨_, rfl⟩
  obtain ⟨W, hW⟩ : ∃ W, w1.alloc (.cells #[.int .i64 0, .int .i64 0, .int .i64 0, .slice none 0 0] 70) = W := ⟨_, rfl⟩
  rw [hb9, hW] at hX9
  rw [hW] at hB1 ⊢
  try rw [hb9]
  clear hW hb1
  have hD := h.out.kept hB1
  have f0 := hD.bk.cell 0
  simp at f0
  replace hD := Lib.hid hD
  replace hB1 := Lib.hid hB1
  replace hX9 := Lib.hid hX9
  replace hb9 := Lib.hid hb9
  refine (rwants_13 W).mono ?_
  rintro e w2 ⟨rfl, hw2⟩
  replace hw2 := hw2.symm
  subst hw2
  go_wp2_with (fail)
  go_loopw [13, 14] (fun x13 x14 wr => ∃ j : Nat, Hid (x13 = .int .i64 (lastV (X.map Prod.fst) j)) ∧ x14 = .int .i64 j ∧ j ≤ n ∧ wr = W) (fun _ x14 _ => n - (intOf x14).toNat)
  case atStart => exact ⟨0, rfl, rfl, by omega, rfl⟩
  case round =>
    obtain ⟨j, hx13, rfl, hj, rfl⟩ := hrel
    have j0 : (0 : Int) ≤ j := by omega
    by_cases hjn : j < n
    · have hjz := hjn
      have j1 : (j : Int) < n := by omega
      obtain ⟨g, hg⟩ : ∃ g, A = some ⟨g, 0, none⟩ := by
        obtain ⟨g, c2, e, _⟩ := hD.out.rw.form (by rw [hn.out]; omega)
        injection e with e1 _ _
        exact ⟨g, e1⟩
      subst hg
      obtain ⟨x, hx⟩ : ∃ x, X[j]? = some x := ⟨_, List.getElem?_eq_getElem (by have := hn.out; omega)⟩
      have hTd := Rwd.tp (c := c) (by have := hD.out.rw; rw [← hn.out] at this; exact this) j x hx
      have t0 := hTd.c0
      have hget := getD_th X j x hx
      replace hTd := Lib.hid hTd
      replace hx := Lib.hid hx
      by_cases hk : x.1.k = 4
      · have z : ((x.1.k : Int) == 4) = true := by simp [hk]
        have hlv := lastV_yes (X.map Prod.fst) j (by rw [hget]; exact hk)
        obtain ⟨kk, hkk⟩ : ∃ kk : Int, (x.1.k : Int) = kk := ⟨_, rfl⟩
        rw [hkk] at z t0
        replace hkk := Lib.hid hkk
        replace hlv := Lib.hid hlv
        clear hk hget
        go_wp2_with (fail)
        exact ⟨⟨j + 1, Lib.hid (by rw [hlv.out]), rfl, by omega, (by first | trivial | rfl)⟩, by simp [intOf]; omega⟩
      · have z : ((x.1.k : Int) == 4) = false := by simp; omega
        have hlv := lastV_no (X.map Prod.fst) j (by rw [hget]; exact hk)
        obtain ⟨kk, hkk⟩ : ∃ kk : Int, (x.1.k : Int) = kk := ⟨_, rfl⟩
        rw [hkk] at z t0
        replace hkk := Lib.hid hkk
        replace hlv := Lib.hid hlv
        clear hk hget
        go_wp2_with (fail)
        exact ⟨⟨j + 1, Lib.hid (by rw [hlv.out]; exact hx13.out), rfl, by omega, (by first | trivial | rfl)⟩, by simp [intOf]; omega⟩
    · have e : j = n := by omega
      subst e
      have j1 : ¬ (j : Int) < j := by omega
      clear hjn
      by_cases h16 : j = 16
      · subst h16
        go_wp2_with (fail)
        go_returns
        exact ddone_bel h.out hB1.out (by unfold Go.Proofs.Ytmfffaocmboelaa.step; rw [if_neg (by decide), if_neg (fun h => absurd rfl h.1)]; simp only [eff]; rw [if_pos (by rw [List.length_map, hn.out])])
      · have z16 : ¬ (16 : Int) ≤ j := by omega
        go_wp2_with (fail)
        refine (rlays_13 wr).mono ?_
        rintro e w2 ⟨rfl, hw2⟩
        replace hw2 := hw2.symm
        subst hw2
        go_wp2_with (fail)
        go_loopw [16, 18] (fun x16 x18 wi => x16 = .slice none 0 0 ∧ x18 = .int .i64 0 ∧ wi = wr) (fun _ _ _ => 0)
        case atStart => exact ⟨rfl, rfl, rfl⟩
        case round =>
          obtain ⟨rfl, rfl, hwi⟩ := hrel
          subst hwi
          obtain ⟨A', c', w4, hrun, hR4, hO4, hgr4⟩ := hD.out.rw.push (⟨5, 0, 0, []⟩, .slice none 0 0) (World.ownsRow_nil _ _ _ _) (B := w.heap.size) hB1.out.size (fun q hq => by simp [Value.ownBlock] at hq) (by have := hn.out; omega)
          rw [hn.out] at hrun
          have hF4 : Bk w4 F _ _ := hO4.bk hD.out.bk (fun hk => hk.elim h.out.out (fun hk => by have := h.out.bk.lt; omega))
          have g0 := hF4.cell 0
          simp at g0
          have g1 := hF4.free 0
          have e8 : IntKind.i64.wrap (8 * (0 : Int)) = 0 := by decide
          have e9 : IntKind.i64.wrap (here + 0) = here := by rw [wrap_in _ (by have := hh.out; omega)]; omega
          simp only at hrun
          have hF5 := hF4.put 0 (.slice A' (j + 1) c')
          have hOF : Onl (fun k => k = F) w4 (w4.setCell ⟨F, 0, none⟩ (.slice A' (j + 1) c')) := (Onl.refl (fun k => k = F) w4).put (p := ⟨F, 0, none⟩) (.inl rfl) _
          have hR5 := hR4.frame hOF (fun k hk e => by subst e; exact hk.elim h.out.out (fun hk => by have := h.out.bk.lt; omega))
          replace hrun := Lib.hid hrun
          replace hR5 := Lib.hid hR5
          replace hO4 := Lib.hid hO4
          replace hF5 := Lib.hid hF5
          replace hOF := Lib.hid hOF
          clear hgr4 hF4 hR4
          go_wp2_with (at_builtin; refine wpList_append_run rfl (.tmp 337) (.tmp 339) 43 rfl (.slice A j c) _ _ rfl rfl hrun.out ?_)
          go_returns
          have hst : Go.Proofs.Ytmfffaocmboelaa.step (X.map Prod.fst) 13 here = ⟨0, [], X.map Prod.fst ++ [⟨5, 0, 0, []⟩]⟩ := by
            unfold Go.Proofs.Ytmfffaocmboelaa.step
            rw [if_neg (by decide), if_neg (fun h => absurd rfl h.1)]
            simp only [eff]
            rw [if_neg (by rw [List.length_map, hn.out]; exact h16)]
          rw [hst]
          refine ⟨.slice none 0 0, .slice A' (j + 1) c', X ++ [(⟨5, 0, 0, []⟩, .slice none 0 0)], rfl, World.ownsRow_nil _ _ _ _, hF5.out, ?_, ?_, ?_⟩
          · have := hR5.out
            rw [List.length_append, hn.out] at this
            exact this
          · simp
          · exact (Onl.of_below (s := fun k => k = F ∨ own k ∨ w.heap.size ≤ k) hB1.out (fun k hk _ => hk)).trans ((hO4.out.grow (fun k _ hk => .inr hk)).trans (hOF.out.grow (fun k _ hk => .inl hk)))
end
end Go.Proofs.Ytmfffaocmboelaa
