import Derived.Test.YtmfffaocmboelaaDwF
namespace Go.Proofs.Ytmfffaocmboelaa
open Go.RowKit
set_option linter.unusedVariables false
set_option linter.unusedSimpArgs false
/-! the document's Word: LEAVE -/
section
variable {w w' : World} {F : Nat} {own : Nat → Prop} {v : Value} {X : List (Th × Value)}
set_option maxHeartbeats 2000000 in
set_option maxRecDepth 100000 in
theorem dword_12 (s : ByteArray) (here : Int) (h : Dl w F own v X) (hs : s.size ≤ maxLen) (hr : row s = 12) (hh : -9223372036854775808 ≤ here ∧ here ≤ 9223372036854775807) :
    Calls Try.prog 15 #[.pointer (some ⟨F, 0, none⟩), .string s, .int .i64 here] w fun e w' => Ddone w w' F own (Go.Proofs.Ytmfffaocmboelaa.step (X.map Prod.fst) (row s) here) e := by
  have hrr := rrow_any s w hs
  rw [hr, if_neg (by decide), show ((12 : Nat) : Int) = 12 from rfl] at hrr
  rw [hr]
  obtain ⟨A, c, hv⟩ := own_form h.rw.row
  obtain ⟨n, hn⟩ : ∃ n, X.length = n := ⟨_, rfl⟩
  rw [hn] at hv
  have hln := h.len
  rw [hn] at hln
  have i16 : (n : Int) ≤ 16 := by omega
  subst hv
  replace hrr := Lib.hid hrr
  replace h := Lib.hid h
  replace hn := Lib.hid hn
  replace hh := Lib.hid hh
  go_enter Try.func15, Try.ntmps15
  go_wp2_with (fail)
  refine hrr.out.mono ?_
  rintro e w1 ⟨rfl, hb1⟩
  have hB1 : Below w.heap.size w (w1.alloc (.cells #[.int .i64 0, .int .i64 0, .int .i64 0, .slice none 0 0] 70)) := hb1.alloc hb1.size _
  have hX9 := Bk.fresh w1 70 #[.int .i64 0, .int .i64 0, .int .i64 0, .slice none 0 0]
  go_wp2_with (fail)
  obtain ⟨b9, hb9⟩ : ∃ b, w1.heap.size = b := ⟨_, rfl⟩
  obtain ⟨W, hW⟩ : ∃ W, w1.alloc (.cells #[.int .i64 0, .int .i64 0, .int .i64 0, .slice none 0 0] 70) = W := ⟨_, rfl⟩
  rw [hb9, hW] at hX9
  rw [hW] at hB1 ⊢
  try rw [hb9]
  clear hW hb1
  have hD := h.out.kept hB1
  have f0 := hD.bk.cell 0
  simp at f0
  replace hD := Lib.hid hD
  replace hB1 := Lib.hid hB1
  replace hX9 := Lib.hid hX9
  replace hb9 := Lib.hid hb9
  refine (rwants_12 W).mono ?_
  rintro e w2 ⟨rfl, hw2⟩
  replace hw2 := hw2.symm
  subst hw2
  go_wp2_with (fail)
  go_loopw [13, 14] (fun x13 x14 wr => ∃ j : Nat, Hid (x13 = .int .i64 (lastV (X.map Prod.fst) j)) ∧ x14 = .int .i64 j ∧ j ≤ n ∧ wr = W) (fun _ x14 _ => n - (intOf x14).toNat)
  case atStart => exact ⟨0, rfl, rfl, by omega, rfl⟩
  case round =>
    obtain ⟨j, hx13, rfl, hj, rfl⟩ := hrel
    have j0 : (0 : Int) ≤ j := by omega
    by_cases hjn : j < n
    · have hjz := hjn
      have j1 : (j : Int) < n := by omega
      obtain ⟨g, hg⟩ : ∃ g, A = some ⟨g, 0, none⟩ := by
        obtain ⟨g, c2, e, _⟩ := hD.out.rw.form (by rw [hn.out]; omega)
        injection e with e1 _ _
        exact ⟨g, e1⟩
      subst hg
      obtain ⟨x, hx⟩ : ∃ x, X[j]? = some x := ⟨_, List.getElem?_eq_getElem (by have := hn.out; omega)⟩
      have hTd := Rwd.tp (c := c) (by have := hD.out.rw; rw [← hn.out] at this; exact this) j x hx
      have t0 := hTd.c0
      have hget := getD_th X j x hx
      replace hTd := Lib.hid hTd
      replace hx := Lib.hid hx
      by_cases hk : x.1.k = 4
      · have z : ((x.1.k : Int) == 4) = true := by simp [hk]
        have hlv := lastV_yes (X.map Prod.fst) j (by rw [hget]; exact hk)
        obtain ⟨kk, hkk⟩ : ∃ kk : Int, (x.1.k : Int) = kk := ⟨_, rfl⟩
        rw [hkk] at z t0
        replace hkk := Lib.hid hkk
        replace hlv := Lib.hid hlv
        clear hk hget
        go_wp2_with (fail)
        exact ⟨⟨j + 1, Lib.hid (by rw [hlv.out]), rfl, by omega, (by first | trivial | rfl)⟩, by simp [intOf]; omega⟩
      · have z : ((x.1.k : Int) == 4) = false := by simp; omega
        have hlv := lastV_no (X.map Prod.fst) j (by rw [hget]; exact hk)
        obtain ⟨kk, hkk⟩ : ∃ kk : Int, (x.1.k : Int) = kk := ⟨_, rfl⟩
        rw [hkk] at z t0
        replace hkk := Lib.hid hkk
        replace hlv := Lib.hid hlv
        clear hk hget
        go_wp2_with (fail)
        exact ⟨⟨j + 1, Lib.hid (by rw [hlv.out]; exact hx13.out), rfl, by omega, (by first | trivial | rfl)⟩, by simp [intOf]; omega⟩
    · have e : j = n := by omega
      subst e
      have j1 : ¬ (j : Int) < j := by omega
      clear hjn
      cases hdo : doFrom (X.map Prod.fst) (X.map Prod.fst).length with
      | none =>
        have hdl : lastV (X.map Prod.fst) j = -1 := by rw [List.length_map, hn.out] at hdo; unfold lastV; rw [hdo]
        have hx9 := hx13.out
        rw [hdl] at hx9
        subst hx9
        clear hdl hx13
        replace hdo := Lib.hid hdo
        go_wp2_with (fail)
        go_returns
        exact ddone_bel h.out hB1.out (by unfold Go.Proofs.Ytmfffaocmboelaa.step; rw [if_neg (by decide), if_neg (fun h => absurd rfl h.1)]; simp only [eff, hdo.out])
      | some i =>
        have hil := doFrom_lt _ _ _ hdo
        rw [List.length_map, hn.out] at hil
        have hdl : lastV (X.map Prod.fst) j = (i : Int) := by rw [List.length_map, hn.out] at hdo; unfold lastV; rw [hdo]
        have hx9 := hx13.out
        rw [hdl] at hx9
        subst hx9
        clear hdl hx13
        have q0 : (0 : Int) ≤ i := by omega
        have q1 : (i : Int) < j := by omega
        obtain ⟨y, hy⟩ : ∃ y, X[i]? = some y := ⟨_, List.getElem?_eq_getElem (by have := hn.out; omega)⟩
        have hdw : IntKind.i64.wrap (here + 8) = nxt here := rfl
        replace hdo := Lib.hid hdo
        replace hy := Lib.hid hy
        go_wp2_with (fail)
        obtain ⟨wb, hwb⟩ : ∃ wb, wr.alloc (.cells #[.int .i64 10, .int .i64 4] 3) = wb := ⟨_, rfl⟩
        have hK8 := Bk.fresh wr 3 #[.int .i64 10, .int .i64 4]
        have hBw : Below wr.heap.size wr (wr.alloc (.cells #[.int .i64 10, .int .i64 4] 3)) := (Below.refl _ _).alloc (Nat.le_refl _) _
        rw [hwb] at hK8 hBw
        have hB2 := hB1.out.trans (hBw.mono hB1.out.size)
        have hD2 := hD.out.kept hBw
        have hX2 := hX9.out.kept hBw hX9.out.lt
        refine (rlays_12 wr).mono ?_
        rintro e w2 ⟨rfl, hw2⟩
        rw [hwb] at hw2
        replace hw2 := hw2.symm
        subst hw2
        obtain ⟨b8, hb8⟩ : ∃ b, wr.heap.size = b := ⟨_, rfl⟩
        rw [hb8] at hK8 ⊢
        obtain ⟨ol, hol⟩ : ∃ ol : List Int, [10, 4] = ol := ⟨_, rfl⟩
        have hol0 : ol.length = 2 := by rw [← hol]; rfl
        rw [show (#[.int .i64 10, .int .i64 4] : Array Value) = (i64s [10, 4]).toArray from rfl, hol] at hK8
        replace hK8 := Lib.hid hK8
        replace hB2 := Lib.hid hB2
        replace hD2 := Lib.hid hD2
        replace hX2 := Lib.hid hX2
        replace hol := Lib.hid hol
        replace hol0 := Lib.hid hol0
        clear hBw hwb f0 hb8
        go_wp2_with (fail)
        go_loopw [16, 18] (fun x16 x18 wi => ∃ (k : Nat) (A4 : Option Addr) (c4 : Nat), x16 = .slice A4 k c4 ∧ x18 = .int .i64 k ∧ k ≤ 2 ∧ wi.ownsRow wb.heap.size 54 4 (.slice A4 k c4) k (actC (layO here 0 (ol.take k))) ∧ Below wb.heap.size wb wi) (fun _ x18 _ => 2 - (intOf x18).toNat)
        case atStart => exact ⟨0, none, 0, rfl, rfl, by omega, World.ownsRow_nil _ _ _ _, Below.refl _ _⟩
        case round =>
          obtain ⟨k, A4, c4, rfl, rfl, hk, hrow, hBi⟩ := hrel
          by_cases hkl : k < 2
          · have hkz := hkl
            have k0 : (0 : Int) ≤ k := by omega
            have k1 : (k : Int) < 2 := by omega
            obtain ⟨o, ho⟩ : ∃ o, ol[k]? = some o := ⟨_, List.getElem?_eq_getElem (by rw [hol0.out]; exact hkl)⟩
            have c0 : wr.cell? ⟨b8, k, none⟩ = some (.int .i64 o) := by
              have hb := hK8.out.kept hBi hK8.out.lt
              rw [hb.cell k]
              simp [i64s, ho]
            have htk : ol.take (k + 1) = ol.take k ++ [o] := by
              obtain ⟨hk3, rfl⟩ := List.getElem?_eq_some_iff.1 ho
              exact List.take_succ_eq_append_getElem hk3
            have hlen : (layO here 0 (ol.take k)).length = k := by rw [layO_len, List.length_take, hol0.out]; omega
            have hsn := layO_snoc here o (ol.take k) 0
            rw [← htk, List.length_take, hol0.out, show 0 + min k 2 = k by omega] at hsn
            have e8 : IntKind.i64.wrap (8 * (k : Int)) = 8 * k := by rw [IntKind.wrap_i64]; omega
            rw [e8] at hsn
            obtain ⟨z, hz⟩ : ∃ z, IntKind.i64.wrap (here + 8 * (k : Int)) = z := ⟨_, rfl⟩
            rw [hz] at hsn
            obtain ⟨A5, c5, w5, hrun, hown, hgr⟩ := dact_append (w := wr) (base := wb.heap.size) ⟨false, z, o, 0⟩ (by rw [hlen]; exact hrow) hBi.size (by rw [hlen]; omega)
            rw [← hsn, layO_len, List.length_take, hol0.out, show min (k + 1) 2 = k + 1 by omega] at hrun hown
            have hB5 : Below wb.heap.size wb w5 := below_grown hBi hgr hBi.size (fun q hq => by have := own_ge hrow q hq; omega)
            replace hrun := Lib.hid hrun
            replace hown := Lib.hid hown
            replace hB5 := Lib.hid hB5
            replace ho := Lib.hid ho
            replace hrow := Lib.hid hrow
            replace hBi := Lib.hid hBi
            clear hgr hsn hlen htk
            go_wp2_with (at_builtin; refine wpList_append_run rfl (.tmp 103) (.tmp 113) 49 rfl (.slice A4 k c4) _ _ rfl rfl hrun.out ?_)
            exact ⟨⟨k + 1, A5, c5, rfl, rfl, by omega, hown.out, hB5.out⟩, by simp [intOf]; omega⟩
          · obtain rfl : k = 2 := by omega
            have hta : ol.take 2 = ol := List.take_of_length_le (by rw [hol0.out]; exact Nat.le_refl _)
            rw [hta] at hrow
            have hDi := hD2.out.kept hBi
            have hBB : Below w.heap.size w wr := hB2.out.trans (hBi.mono hB2.out.size)
            have hacts : layO here 0 ol = [⟨false, here, 10, 0⟩, ⟨false, nxt here, 4, 0⟩] := by
              rw [← hol.out]
              simp only [layO, Nat.zero_add, lay_0 here hh.out, lay_1 here]
            rw [hacts] at hrow
            have hy16 : IntKind.i64.wrap (here + 16) = nxt (nxt here) := by unfold nxt; rw [IntKind.wrap_i64, IntKind.wrap_i64, IntKind.wrap_i64]; omega
            obtain ⟨g, hg⟩ : ∃ g, A = some ⟨g, 0, none⟩ := by
              obtain ⟨g, c2, e, _⟩ := hDi.rw.form (by rw [hn.out]; omega)
              injection e with e1 _ _
              exact ⟨g, e1⟩
            subst hg
            have hRX : Rwd wr own (.slice (some ⟨g, 0, none⟩) X.length c) X := by rw [hn.out]; exact hDi.rw
            have hmo : y.1.more.length ≤ 50000 := h.out.more y (List.mem_of_getElem? hy.out)
            obtain ⟨A8, c8, w8, hrun8, hgr8, hT8, hR8, hO8⟩ := (show Rwd wr.drew own (.slice (some ⟨g, 0, none⟩) X.length c) X from hRX.frame (s := fun _ => False) ⟨rfl, rfl, rfl, Nat.le_refl _, fun _ _ _ => rfl⟩ (fun _ _ h => h)).grow i y hy.out (nxt here) (by omega) (B := w.heap.size) hBB.size
            have hgo := hRX.own1 g rfl
            have hrow8 := hO8.row (show wr.drew.ownsRow _ _ _ _ _ _ from hrow) (fun q hq e => by have := own_ge hrow q hq; have := hD2.out.old q e; omega)
            have hF8 := hO8.bk hDi.bk.draw h.out.out
            have hF9 := Bk.grown hDi.bk.draw hgr8 (fun e => h.out.out (hRX.own2 y (List.mem_of_getElem? hy.out) F e.symm))
            have k0 := hF9.cell 0
            simp at k0
            have k1 := hT8.c3
            have k2 := hT8.fr (i * 4 + 3)
            have ht7 := hRX.tp i y hy.out
            have t3 := ht7.c3
            have f0 := hDi.bk.cell 0
            simp at f0
            have hF7c := (hDi.bk.past (.cells #[.int .i64 (nxt here)] 3)).cell 0
            simp at hF7c
            obtain ⟨y1, hy1⟩ : ∃ y, nxt here = y := ⟨_, rfl⟩
            rw [hy1] at hdw hrun8 hF7c
            obtain ⟨y2, hy2⟩ : ∃ y, nxt (nxt here) = y := ⟨_, rfl⟩
            rw [hy2] at hy16
            obtain ⟨mv, hmv⟩ : ∃ mv, y.2 = mv := ⟨_, rfl⟩
            obtain ⟨ml, hml⟩ : ∃ ml, y.1.more.length = ml := ⟨_, rfl⟩
            rw [hmv] at t3 k1 hrun8
            rw [hml] at hrun8 hR8 hO8 hrow8 hF8
            have t3c : (wr.alloc (.cells #[.int .i64 y1] 3)).cell? ⟨g, i * 4 + 3, none⟩ = some mv := (((Below.refl wr.heap.size wr).alloc (Nat.le_refl _) _).cell (p := ⟨g, i * 4 + 3, none⟩) (show g < wr.heap.size from (hRX.row.lt g rfl).2)).trans t3
            have k9 : (w8.setCell ⟨g, i * 4 + 3, none⟩ (.slice A8 (ml + 1) c8)).cell? ⟨F, 0, none⟩ = some (.slice (some ⟨g, 0, none⟩) j c) := by have := hF8.cell 0; simp at this; exact this
            replace hrun8 := Lib.hid hrun8
            replace hF8 := Lib.hid hF8
            replace hO8 := Lib.hid hO8
            replace hR8 := Lib.hid hR8
            replace hrow8 := Lib.hid hrow8
            replace hBB := Lib.hid hBB
            replace hmv := Lib.hid hmv
            replace hml := Lib.hid hml
            replace hy1 := Lib.hid hy1
            replace hy2 := Lib.hid hy2
            clear hrow hBi hDi hta hacts hgr8 hT8 hF9 ht7 hmo hRX hgo
            go_wp2_with (fail)
            refine wp_region_held_drew (S := fun W_ => W_.cell? ⟨F, 0, none⟩ = some (.slice (some ⟨g, 0, none⟩) j c)) (by kernel_rfl) f0 (fun hHeld => ?_)
            refine wpAnyH_take (i := 0) (oi := { dst := some 312, op := _, type := _, pos := _, after := _, guard := _ }) (v := ?_) rfl (by kernel_rfl) (by kernel_rfl) (by kernel_rfl) (fun _ _ _ h => h) (Or.inl ⟨by rfl, ?_⟩) (by assumption) ?_
            rotate_left
            focus ((intro w hSw); (try dsimp only at hSw); go_simp; (try (with_reducible rfl)))
            try simp only [Act.put, List.setIfInBounds_toArray, List.set_cons_zero, List.set_cons_succ]
            refine wpAnyH_take (i := 1) (oi := { dst := some 313, op := _, type := _, pos := _, after := _, guard := _ }) (v := ?_) rfl (by kernel_rfl) (by kernel_rfl) (by kernel_rfl) (fun _ _ _ h => h) (Or.inl ⟨by rfl, ?_⟩) (by assumption) ?_
            rotate_left
            focus ((intro w hSw); (try dsimp only at hSw); go_simp; (try (with_reducible rfl)))
            try simp only [Act.put, List.setIfInBounds_toArray, List.set_cons_zero, List.set_cons_succ]
            refine wpAnyH_take (i := 2) (oi := { dst := some 314, op := _, type := _, pos := _, after := _, guard := _ }) (v := ?_) rfl (by kernel_rfl) (by kernel_rfl) (by kernel_rfl) (fun _ _ _ h => h) (Or.inl ⟨by rfl, ?_⟩) (by assumption) ?_
            rotate_left
            focus ((intro w hSw); (try dsimp only at hSw); go_simp; (try (with_reducible rfl)))
            try simp only [Act.put, List.setIfInBounds_toArray, List.set_cons_zero, List.set_cons_succ]
            refine wpAnyH_take (i := 3) (oi := { dst := some 315, op := _, type := _, pos := _, after := _, guard := _ }) (v := ?_) rfl (by kernel_rfl) (by kernel_rfl) (by kernel_rfl) (fun _ _ _ h => h) (Or.inl ⟨by rfl, ?_⟩) (by assumption) ?_
            rotate_left
            focus ((intro w hSw); (try dsimp only at hSw); go_simp; (try (with_reducible rfl)))
            try simp only [Act.put, List.setIfInBounds_toArray, List.set_cons_zero, List.set_cons_succ]
            refine wpAnyH_take (i := 4) (oi := { dst := some 316, op := _, type := _, pos := _, after := _, guard := _ }) (v := ?_) rfl (by kernel_rfl) (by kernel_rfl) (by kernel_rfl) (fun _ _ _ h => h) (Or.inl ⟨by rfl, ?_⟩) (by assumption) ?_
            rotate_left
            focus ((intro w hSw); (try dsimp only at hSw); go_simp; (try (with_reducible rfl)))
            try simp only [Act.put, List.setIfInBounds_toArray, List.set_cons_zero, List.set_cons_succ]
            refine wpAnyH_take (i := 5) (oi := { dst := some 317, op := _, type := _, pos := _, after := _, guard := _ }) (v := ?_) rfl (by kernel_rfl) (by kernel_rfl) (by kernel_rfl) (fun _ _ _ h => h) (Or.inl ⟨by rfl, ?_⟩) (by assumption) ?_
            rotate_left
            focus ((intro w hSw); (try dsimp only at hSw); go_simp; (try (with_reducible rfl)))
            try simp only [Act.put, List.setIfInBounds_toArray, List.set_cons_zero, List.set_cons_succ]
            refine wpAnyH_take (i := 6) (oi := { dst := some 318, op := _, type := _, pos := _, after := _, guard := _ }) (v := ?_) rfl (by kernel_rfl) (by kernel_rfl) (by kernel_rfl) (fun _ _ _ h => h) (Or.inl ⟨by rfl, ?_⟩) (by assumption) ?_
            rotate_left
            focus ((intro w hSw); (try dsimp only at hSw); go_simp; (try (with_reducible rfl)))
            try simp only [Act.put, List.setIfInBounds_toArray, List.set_cons_zero, List.set_cons_succ]
            refine wpAnyH_take (i := 7) (oi := { dst := some 319, op := _, type := _, pos := _, after := _, guard := _ }) (v := ?_) rfl (by kernel_rfl) (by kernel_rfl) (by kernel_rfl) (fun _ _ _ h => h) (Or.inl ⟨by rfl, ?_⟩) (by assumption) ?_
            rotate_left
            focus ((intro w hSw); (try dsimp only at hSw); go_simp; (try (with_reducible rfl)))
            try simp only [Act.put, List.setIfInBounds_toArray, List.set_cons_zero, List.set_cons_succ]
            refine wpAnyH_take (i := 8) (oi := { dst := some 320, op := _, type := _, pos := _, after := _, guard := _ }) (v := ?_) rfl (by kernel_rfl) (by kernel_rfl) (by kernel_rfl) (fun _ _ _ h => h) (Or.inl ⟨by rfl, ?_⟩) (by assumption) ?_
            rotate_left
            focus ((intro w hSw); (try dsimp only at hSw); go_simp; (try (with_reducible rfl)))
            try simp only [Act.put, List.setIfInBounds_toArray, List.set_cons_zero, List.set_cons_succ]
            refine wpAnyH_take (i := 9) (oi := { dst := some 321, op := _, type := _, pos := _, after := _, guard := _ }) (v := ?_) rfl (by kernel_rfl) (by kernel_rfl) (by kernel_rfl) (fun _ _ _ h => h) (Or.inl ⟨by rfl, ?_⟩) (by assumption) ?_
            rotate_left
            focus ((intro w hSw); (try dsimp only at hSw); go_simp; (try (with_reducible rfl)))
            try simp only [Act.put, List.setIfInBounds_toArray, List.set_cons_zero, List.set_cons_succ]
            refine wpAnyH_take (i := 10) (oi := { dst := some 322, op := _, type := _, pos := _, after := _, guard := _ }) (v := ?_) rfl (by kernel_rfl) (by kernel_rfl) (by kernel_rfl) (fun _ _ _ h => h) (Or.inl ⟨by rfl, ?_⟩) (by assumption) ?_
            rotate_left
            focus ((intro w hSw); (try dsimp only at hSw); go_simp; (try (with_reducible rfl)))
            try simp only [Act.put, List.setIfInBounds_toArray, List.set_cons_zero, List.set_cons_succ]
            refine wpAnyH_take (i := 11) (oi := { dst := some 323, op := _, type := _, pos := _, after := _, guard := _ }) (v := ?_) rfl (by kernel_rfl) (by kernel_rfl) (by kernel_rfl) (fun _ _ _ h => h) (Or.inl ⟨by rfl, ?_⟩) (by assumption) ?_
            rotate_left
            focus ((intro w hSw); (try dsimp only at hSw); go_simp; (try (with_reducible rfl)))
            try simp only [Act.put, List.setIfInBounds_toArray, List.set_cons_zero, List.set_cons_succ]
            refine wpAnyH_take (i := 13) (oi := { dst := some 325, op := _, type := _, pos := _, after := _, guard := _ }) (v := ?_) rfl (by kernel_rfl) (by kernel_rfl) (by kernel_rfl) (fun _ _ _ h => h) (Or.inl ⟨by rfl, ?_⟩) (by assumption) ?_
            rotate_left
            focus ((intro w hSw); (try dsimp only at hSw); go_simp; (try (with_reducible rfl)))
            try simp only [Act.put, List.setIfInBounds_toArray, List.set_cons_zero, List.set_cons_succ]
            refine wpAnyH_take (i := 14) (oi := { dst := some 326, op := _, type := _, pos := _, after := _, guard := _ }) (v := ?_) rfl (by kernel_rfl) (by kernel_rfl) (by kernel_rfl) (fun _ _ _ h => h) (Or.inl ⟨by rfl, ?_⟩) (by assumption) ?_
            rotate_left
            focus ((intro w hSw); (try dsimp only at hSw); go_simp; (try (with_reducible rfl)))
            try simp only [Act.put, List.setIfInBounds_toArray, List.set_cons_zero, List.set_cons_succ]
            clear hHeld
            refine wpAnyH_ready (rs := [12, 15]) (by kernel_rfl) (by simp) ?_
            refine AllReadyH.cons (o := { dst := some 324, op := _, type := _, pos := _, after := _, guard := _ }) rfl (fun K hK => ?_) (AllReadyH.cons (o := { dst := some 327, op := _, type := _, pos := _, after := _, guard := _ }) rfl (fun K hK => ?_) AllReadyH.nil)
            · have z := hK
              go_simp
              refine hK _ _ f0 (fun hHeld => ?_)
              clear hK K hHeld z
              try simp only [Act.put, List.setIfInBounds_toArray, List.set_cons_zero, List.set_cons_succ]
              refine wpAnyH_ready (rs := [15]) (by kernel_rfl) (by simp) ?_
              refine AllReadyH.cons (o := { dst := some 327, op := _, type := _, pos := _, after := _, guard := _ }) rfl (fun K hK => ?_) AllReadyH.nil
              go_simp
              refine hK _ _ hF7c (fun hHeld => ?_)
              clear hK K hHeld
              try simp only [Act.put, List.setIfInBounds_toArray, List.set_cons_zero, List.set_cons_succ]
              refine wpAnyH_ready (rs := [16]) (by kernel_rfl) (by simp) ?_
              refine AllReadyH.cons (o := { dst := some 328, op := _, type := _, pos := _, after := _, guard := _ }) rfl (fun K hK => ?_) AllReadyH.nil
              refine step_append_run rfl (.tmp 324) (.tmp 327) 32 rfl mv _ _ rfl rfl hrun8.out ?_
              refine hK _ _ k0 (fun hHeld => ?_)
              clear hK K
              try simp only [Act.put, List.setIfInBounds_toArray, List.set_cons_zero, List.set_cons_succ]
              refine wpAnyH_take (i := 17) (oi := { dst := some 329, op := _, type := _, pos := _, after := _, guard := _ }) (v := ?_) rfl (by kernel_rfl) (by kernel_rfl) (by kernel_rfl) (fun _ _ _ h => h) (Or.inl ⟨by rfl, ?_⟩) (by assumption) ?_
              rotate_left
              focus ((intro w hSw); (try dsimp only at hSw); go_simp; (try (with_reducible rfl)))
              try simp only [Act.put, List.setIfInBounds_toArray, List.set_cons_zero, List.set_cons_succ]
              refine wpAnyH_take (i := 18) (oi := { dst := some 330, op := _, type := _, pos := _, after := _, guard := _ }) (v := ?_) rfl (by kernel_rfl) (by kernel_rfl) (by kernel_rfl) (fun _ _ _ h => h) (Or.inl ⟨by rfl, ?_⟩) (by assumption) ?_
              rotate_left
              focus ((intro w hSw); (try dsimp only at hSw); go_simp; (try (with_reducible rfl)))
              try simp only [Act.put, List.setIfInBounds_toArray, List.set_cons_zero, List.set_cons_succ]
              clear hHeld
              refine wpAnyH_ready (rs := [19]) (by kernel_rfl) (by simp) ?_
              refine AllReadyH.cons (o := { dst := none, op := _, type := _, pos := _, after := _, guard := _ }) rfl (fun K hK => ?_) AllReadyH.nil
              go_simp
              refine hK _ _ k9 (fun hHeld => ?_)
              clear hK K hHeld
              try simp only [Act.put, List.setIfInBounds_toArray, List.set_cons_zero, List.set_cons_succ]
              refine wpAnyH_done (by kernel_rfl) ?_ _
              go_wp2_with (fail)
              go_returns
              have hst : Go.Proofs.Ytmfffaocmboelaa.step (X.map Prod.fst) 12 here = ⟨0, [⟨false, here, 10, 0⟩, ⟨false, nxt here, 4, 0⟩], (X.map Prod.fst).set i (y.1.plus (nxt here))⟩ := by
                unfold Go.Proofs.Ytmfffaocmboelaa.step
                rw [if_neg (by decide), if_neg (fun h => absurd rfl h.1)]
                have hg2 : (X.map Prod.fst).getD i th0 = y.1 := by rw [List.getD_eq_getElem?_getD, List.getElem?_map, hy.out]; rfl
                simp only [eff, hdo.out, hg2]
              rw [hst]
              refine ⟨.slice A4 2 c4, .slice (some ⟨g, 0, none⟩) j c, X.set i (y.1.plus (nxt here), .slice A8 (ml + 1) c8), rfl, own_base hrow8.out hB2.out.size, hF8.out, ?_, ?_, ?_⟩
              · have := hR8.out
                rw [List.length_set, hn.out] at this
                exact this
              · rw [List.map_set]
              · exact (Onl.of_below (s := fun k => k = F ∨ own k ∨ w.heap.size ≤ k) hBB.out (fun k hk _ => hk)).trans (((Onl.refl (fun k => k = F ∨ own k ∨ w.heap.size ≤ k) _).draw).trans (hO8.out.grow (fun k _ hk => .inr (.inl hk))))
            · have z := hK
              go_simp
              refine hK _ _ hF7c (fun hHeld => ?_)
              clear hK K hHeld z
              try simp only [Act.put, List.setIfInBounds_toArray, List.set_cons_zero, List.set_cons_succ]
              refine wpAnyH_ready (rs := [12]) (by kernel_rfl) (by simp) ?_
              refine AllReadyH.cons (o := { dst := some 324, op := _, type := _, pos := _, after := _, guard := _ }) rfl (fun K hK => ?_) AllReadyH.nil
              go_simp
              refine hK _ _ hF7c (fun hHeld => ?_)
              clear hK K hHeld
              try simp only [Act.put, List.setIfInBounds_toArray, List.set_cons_zero, List.set_cons_succ]
              refine wpAnyH_ready (rs := [16]) (by kernel_rfl) (by simp) ?_
              refine AllReadyH.cons (o := { dst := some 328, op := _, type := _, pos := _, after := _, guard := _ }) rfl (fun K hK => ?_) AllReadyH.nil
              refine step_append_run rfl (.tmp 324) (.tmp 327) 32 rfl mv _ _ rfl rfl hrun8.out ?_
              refine hK _ _ k0 (fun hHeld => ?_)
              clear hK K
              try simp only [Act.put, List.setIfInBounds_toArray, List.set_cons_zero, List.set_cons_succ]
              refine wpAnyH_take (i := 17) (oi := { dst := some 329, op := _, type := _, pos := _, after := _, guard := _ }) (v := ?_) rfl (by kernel_rfl) (by kernel_rfl) (by kernel_rfl) (fun _ _ _ h => h) (Or.inl ⟨by rfl, ?_⟩) (by assumption) ?_
              rotate_left
              focus ((intro w hSw); (try dsimp only at hSw); go_simp; (try (with_reducible rfl)))
              try simp only [Act.put, List.setIfInBounds_toArray, List.set_cons_zero, List.set_cons_succ]
              refine wpAnyH_take (i := 18) (oi := { dst := some 330, op := _, type := _, pos := _, after := _, guard := _ }) (v := ?_) rfl (by kernel_rfl) (by kernel_rfl) (by kernel_rfl) (fun _ _ _ h => h) (Or.inl ⟨by rfl, ?_⟩) (by assumption) ?_
              rotate_left
              focus ((intro w hSw); (try dsimp only at hSw); go_simp; (try (with_reducible rfl)))
              try simp only [Act.put, List.setIfInBounds_toArray, List.set_cons_zero, List.set_cons_succ]
              clear hHeld
              refine wpAnyH_ready (rs := [19]) (by kernel_rfl) (by simp) ?_
              refine AllReadyH.cons (o := { dst := none, op := _, type := _, pos := _, after := _, guard := _ }) rfl (fun K hK => ?_) AllReadyH.nil
              go_simp
              refine hK _ _ k9 (fun hHeld => ?_)
              clear hK K hHeld
              try simp only [Act.put, List.setIfInBounds_toArray, List.set_cons_zero, List.set_cons_succ]
              refine wpAnyH_done (by kernel_rfl) ?_ _
              go_wp2_with (fail)
              go_returns
              have hst : Go.Proofs.Ytmfffaocmboelaa.step (X.map Prod.fst) 12 here = ⟨0, [⟨false, here, 10, 0⟩, ⟨false, nxt here, 4, 0⟩], (X.map Prod.fst).set i (y.1.plus (nxt here))⟩ := by
                unfold Go.Proofs.Ytmfffaocmboelaa.step
                rw [if_neg (by decide), if_neg (fun h => absurd rfl h.1)]
                have hg2 : (X.map Prod.fst).getD i th0 = y.1 := by rw [List.getD_eq_getElem?_getD, List.getElem?_map, hy.out]; rfl
                simp only [eff, hdo.out, hg2]
              rw [hst]
              refine ⟨.slice A4 2 c4, .slice (some ⟨g, 0, none⟩) j c, X.set i (y.1.plus (nxt here), .slice A8 (ml + 1) c8), rfl, own_base hrow8.out hB2.out.size, hF8.out, ?_, ?_, ?_⟩
              · have := hR8.out
                rw [List.length_set, hn.out] at this
                exact this
              · rw [List.map_set]
              · exact (Onl.of_below (s := fun k => k = F ∨ own k ∨ w.heap.size ≤ k) hBB.out (fun k hk _ => hk)).trans (((Onl.refl (fun k => k = F ∨ own k ∨ w.heap.size ≤ k) _).draw).trans (hO8.out.grow (fun k _ hk => .inr (.inl hk))))
end
end Go.Proofs.Ytmfffaocmboelaa
