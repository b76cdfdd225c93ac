import Derived.Test.YtmfffaocmboelaaDwF
namespace Go.Proofs.Ytmfffaocmboelaa
open Go.RowKit
set_option linter.unusedVariables false
set_option linter.unusedSimpArgs false
/-! the document's Word: rows that lay one operation, set where it goes, and close -/
section
variable {w w' : World} {F : Nat} {own : Nat → Prop} {v : Value} {X : List (Th × Value)}
set_option maxHeartbeats 2000000 in
set_option maxRecDepth 100000 in
theorem dyes_4 (s : ByteArray) (here : Int) (h : Dl w F own v X) (hs : s.size ≤ maxLen) (hr : row s = 4) (hh : -9223372036854775808 ≤ here ∧ here ≤ 9223372036854775807) (hb : (topT (X.map Prod.fst)).k = 2) :
    Calls Try.prog 15 #[.pointer (some ⟨F, 0, none⟩), .string s, .int .i64 here] w fun e w' => Ddone w w' F own (Go.Proofs.Ytmfffaocmboelaa.step (X.map Prod.fst) (row s) here) e := by
  have hrr := rrow_any s w hs
  rw [hr, if_neg (by decide), show ((4 : Nat) : Int) = 4 from rfl] at hrr
  rw [hr]
  obtain ⟨m, hm0⟩ : ∃ m, X.length = m + 1 := by
    cases hX : X.length with
    | zero => rw [List.eq_nil_of_length_eq_zero hX] at hb; exact absurd hb (by decide)
    | succ m => exact ⟨m, rfl⟩
  obtain ⟨x, hx⟩ : ∃ x, X[m]? = some x := ⟨_, List.getElem?_eq_getElem (by omega)⟩
  have htx := topT_at rfl hm0 hx
  rw [htx] at hb
  obtain ⟨g, c0, hvg, _⟩ := h.rw.form (by omega)
  have htop : ∀ W, Dl W F own v X → Calls Try.prog 25 #[.pointer (some ⟨F, 0, none⟩), .int .i64 2] W fun e w' => e = .returned (.tuple #[dagg x, .bool true]) ∧ Below W.heap.size W w' := fun W hW => by
    have := rtop_yes hW hvg rfl hm0 hx
    rw [hb] at this
    exact this
  obtain ⟨Am, cm, hxm⟩ := own_form (h.rw.more x (List.mem_of_getElem? hx))
  unfold dagg at htop
  rw [hxm] at htop
  replace htop := Lib.hid htop
  replace hb := Lib.hid hb
  replace htx := Lib.hid htx
  replace hx := Lib.hid hx
  replace hm0 := Lib.hid hm0
  replace hxm := Lib.hid hxm
  replace hvg := Lib.hid hvg
  obtain ⟨A, c, hv⟩ := own_form h.rw.row
  obtain ⟨n, hn⟩ : ∃ n, X.length = n := ⟨_, rfl⟩
  rw [hn] at hv
  have hln := h.len
  rw [hn] at hln
  have i16 : (n : Int) ≤ 16 := by omega
  subst hv
  replace hrr := Lib.hid hrr
  replace h := Lib.hid h
  replace hn := Lib.hid hn
  replace hh := Lib.hid hh
  have hvg' := hvg.out
  injection hvg' with eA en ec
  clear en ec
  subst eA
  clear hvg
  have hm1 : n = m + 1 := by rw [← hn.out]; exact hm0.out
  have e1 : IntKind.i64.wrap ((n : Int) - 1) = (m : Int) := by rw [IntKind.wrap_i64]; omega
  have m0 : (0 : Int) ≤ m := by omega
  replace hm1 := Lib.hid hm1
  go_enter Try.func15, Try.ntmps15
  go_wp2_with (fail)
  refine hrr.out.mono ?_
  rintro e w1 ⟨rfl, hb1⟩
  have hw1z := Lib.hid hb1.size
  have hB1 : Below w.heap.size w (w1.alloc (.cells #[.int .i64 0, .int .i64 0, .int .i64 0, .slice none 0 0] 70)) := hb1.alloc hb1.size _
  have hX9 := Bk.fresh w1 70 #[.int .i64 0, .int .i64 0, .int .i64 0, .slice none 0 0]
  go_wp2_with (fail)
  obtain ⟨b9, hb9⟩ : ∃ b, w1.heap.size = b := ⟨_, rfl⟩
  obtain ⟨W, hW⟩ : ∃ W, w1.alloc (.cells #[.int .i64 0, .int .i64 0, .int .i64 0, .slice none 0 0] 70) = W := ⟨_, rfl⟩
  rw [hb9, hW] at hX9
  rw [hW] at hB1 ⊢
  try rw [hb9]
  clear hW hb1
  have hD := h.out.kept hB1
  have f0 := hD.bk.cell 0
  simp at f0
  replace hD := Lib.hid hD
  replace hB1 := Lib.hid hB1
  replace hX9 := Lib.hid hX9
  replace hb9 := Lib.hid hb9
  refine (rwants_4 W).mono ?_
  rintro e w2 ⟨rfl, hw2⟩
  replace hw2 := hw2.symm
  subst hw2
  go_wp2_with (fail)
  refine (htop.out _ hD.out).mono ?_
  rintro e w3 ⟨rfl, hb3⟩
  have hX3 := (hX9.out.kept hb3 hX9.out.lt).past (.cells #[.int .i64 (x.1.k : Int), .int .i64 x.1.at_, .int .i64 x.1.tgt, .slice Am x.1.more.length cm] 70)
  have x0 := hX3.cell 0
  have x1 := hX3.cell 1
  have x2 := hX3.cell 2
  have x3 := hX3.cell 3
  have z0 := hX3.free 0
  have z1 := hX3.free 1
  have z2 := hX3.free 2
  have z3 := hX3.free 3
  simp at x0 x1 x2 x3
  replace hX3 := Lib.hid hX3
  clear f0
  go_wp2_with (fail)
  have hB4 := hB1.out.trans (((hb3.alloc hb3.size (.cells #[.int .i64 (x.1.k : Int), .int .i64 x.1.at_, .int .i64 x.1.tgt, .slice Am x.1.more.length cm] 70))).mono hB1.out.size)
  have hb9w : w.heap.size ≤ b9 := by rw [← hb9.out]; exact hw1z.out
  have hX4 := (((hX3.out.put 0 (.int .i64 (x.1.k : Int))).put 1 (.int .i64 x.1.at_)).put 2 (.int .i64 x.1.tgt)).put 3 (.slice Am x.1.more.length cm)
  have hB5 := (((hB4.setCell (p := ⟨b9, 0, none⟩) hb9w (.int .i64 (x.1.k : Int))).setCell (p := ⟨b9, 1, none⟩) hb9w (.int .i64 x.1.at_)).setCell (p := ⟨b9, 2, none⟩) hb9w (.int .i64 x.1.tgt)).setCell (p := ⟨b9, 3, none⟩) hb9w (.slice Am x.1.more.length cm)
  obtain ⟨W4, hW4⟩ : ∃ W4, (((((w3.alloc (.cells #[.int .i64 (x.1.k : Int), .int .i64 x.1.at_, .int .i64 x.1.tgt, .slice Am x.1.more.length cm] 70)).setCell ⟨b9, 0, none⟩ (.int .i64 (x.1.k : Int))).setCell ⟨b9, 1, none⟩ (.int .i64 x.1.at_)).setCell ⟨b9, 2, none⟩ (.int .i64 x.1.tgt)).setCell ⟨b9, 3, none⟩ (.slice Am x.1.more.length cm)) = W4 := ⟨_, rfl⟩
  rw [hW4] at hX4 hB5 ⊢
  simp at hX4
  clear hW4 x0 x1 x2 x3 z0 z1 z2 z3 hX3 hB4 hb3 hD hB1 hX9
  have hD := h.out.kept hB5
  have hB1 := Lib.hid hB5
  have hX9 := Lib.hid hX4
  have f0 := hD.bk.cell 0
  simp at f0
  replace hD := Lib.hid hD
  clear hB5 hX4
  go_loopw [13, 14] (fun x13 x14 wr => ∃ j : Nat, Hid (x13 = .int .i64 (lastV (X.map Prod.fst) j)) ∧ x14 = .int .i64 j ∧ j ≤ n ∧ wr = W4) (fun _ x14 _ => n - (intOf x14).toNat)
  case atStart => exact ⟨0, rfl, rfl, by omega, rfl⟩
  case round =>
    obtain ⟨j, hx13, rfl, hj, rfl⟩ := hrel
    have j0 : (0 : Int) ≤ j := by omega
    by_cases hjn : j < n
    · have hjz := hjn
      have j1 : (j : Int) < n := by omega
      obtain ⟨xj, hxj⟩ : ∃ x, X[j]? = some x := ⟨_, List.getElem?_eq_getElem (by have := hn.out; omega)⟩
      have hTd := Rwd.tp (c := c) (by have := hD.out.rw; rw [← hn.out] at this; exact this) j xj hxj
      have t0 := hTd.c0
      have hget := getD_th X j xj hxj
      replace hTd := Lib.hid hTd
      replace hxj := Lib.hid hxj
      by_cases hk : xj.1.k = 4
      · have z : ((xj.1.k : Int) == 4) = true := by simp [hk]
        have hlv := lastV_yes (X.map Prod.fst) j (by rw [hget]; exact hk)
        obtain ⟨kk, hkk⟩ : ∃ kk : Int, (xj.1.k : Int) = kk := ⟨_, rfl⟩
        rw [hkk] at z t0
        replace hkk := Lib.hid hkk
        replace hlv := Lib.hid hlv
        clear hk hget
        go_wp2_with (fail)
        exact ⟨⟨j + 1, Lib.hid (by rw [hlv.out]), rfl, by omega, (by first | trivial | rfl)⟩, by simp [intOf]; omega⟩
      · have z : ((xj.1.k : Int) == 4) = false := by simp; omega
        have hlv := lastV_no (X.map Prod.fst) j (by rw [hget]; exact hk)
        obtain ⟨kk, hkk⟩ : ∃ kk : Int, (xj.1.k : Int) = kk := ⟨_, rfl⟩
        rw [hkk] at z t0
        replace hkk := Lib.hid hkk
        replace hlv := Lib.hid hlv
        clear hk hget
        go_wp2_with (fail)
        exact ⟨⟨j + 1, Lib.hid (by rw [hlv.out]; exact hx13.out), rfl, by omega, (by first | trivial | rfl)⟩, by simp [intOf]; omega⟩
    · have e : j = n := by omega
      subst e
      have j1 : ¬ (j : Int) < j := by omega
      clear hjn
      go_wp2_with (fail)
      obtain ⟨wb, hwb⟩ : ∃ wb, wr.alloc (.cells #[.int .i64 4] 3) = wb := ⟨_, rfl⟩
      have hK8 := Bk.fresh wr 3 #[.int .i64 4]
      have hBw : Below wr.heap.size wr (wr.alloc (.cells #[.int .i64 4] 3)) := (Below.refl _ _).alloc (Nat.le_refl _) _
      rw [hwb] at hK8 hBw
      have hB2 := hB1.out.trans (hBw.mono hB1.out.size)
      have hD2 := hD.out.kept hBw
      have hX2 := hX9.out.kept hBw hX9.out.lt
      refine (rlays_4 wr).mono ?_
      rintro e w2 ⟨rfl, hw2⟩
      rw [hwb] at hw2
      replace hw2 := hw2.symm
      subst hw2
      obtain ⟨b8, hb8⟩ : ∃ b, wr.heap.size = b := ⟨_, rfl⟩
      rw [hb8] at hK8 ⊢
      obtain ⟨ol, hol⟩ : ∃ ol : List Int, [4] = ol := ⟨_, rfl⟩
      have hol0 : ol.length = 1 := by rw [← hol]; rfl
      rw [show (#[.int .i64 4] : Array Value) = (i64s [4]).toArray from rfl, hol] at hK8
      replace hK8 := Lib.hid hK8
      replace hB2 := Lib.hid hB2
      replace hD2 := Lib.hid hD2
      replace hX2 := Lib.hid hX2
      replace hol := Lib.hid hol
      replace hol0 := Lib.hid hol0
      clear hBw hwb f0 hb8
      go_wp2_with (fail)
      go_loopw [16, 18] (fun x16 x18 wi => ∃ (k : Nat) (A4 : Option Addr) (c4 : Nat), x16 = .slice A4 k c4 ∧ x18 = .int .i64 k ∧ k ≤ 1 ∧ wi.ownsRow wb.heap.size 54 4 (.slice A4 k c4) k (actC (layO here 0 (ol.take k))) ∧ Below wb.heap.size wb wi) (fun _ x18 _ => 1 - (intOf x18).toNat)
      case atStart => exact ⟨0, none, 0, rfl, rfl, by omega, World.ownsRow_nil _ _ _ _, Below.refl _ _⟩
      case round =>
        obtain ⟨k, A4, c4, rfl, rfl, hk, hrow, hBi⟩ := hrel
        by_cases hkl : k < 1
        · have hkz := hkl
          have k0 : (0 : Int) ≤ k := by omega
          have k1 : (k : Int) < 1 := by omega
          obtain ⟨o, ho⟩ : ∃ o, ol[k]? = some o := ⟨_, List.getElem?_eq_getElem (by rw [hol0.out]; exact hkl)⟩
          have c0 : wr.cell? ⟨b8, k, none⟩ = some (.int .i64 o) := by
            have hb := hK8.out.kept hBi hK8.out.lt
            rw [hb.cell k]
            simp [i64s, ho]
          have htk : ol.take (k + 1) = ol.take k ++ [o] := by
            obtain ⟨hk3, rfl⟩ := List.getElem?_eq_some_iff.1 ho
            exact List.take_succ_eq_append_getElem hk3
          have hlen : (layO here 0 (ol.take k)).length = k := by rw [layO_len, List.length_take, hol0.out]; omega
          have hsn := layO_snoc here o (ol.take k) 0
          rw [← htk, List.length_take, hol0.out, show 0 + min k 1 = k by omega] at hsn
          have e8 : IntKind.i64.wrap (8 * (k : Int)) = 8 * k := by rw [IntKind.wrap_i64]; omega
          rw [e8] at hsn
          obtain ⟨z, hz⟩ : ∃ z, IntKind.i64.wrap (here + 8 * (k : Int)) = z := ⟨_, rfl⟩
          rw [hz] at hsn
          obtain ⟨A5, c5, w5, hrun, hown, hgr⟩ := dact_append (w := wr) (base := wb.heap.size) ⟨false, z, o, 0⟩ (by rw [hlen]; exact hrow) hBi.size (by rw [hlen]; omega)
          rw [← hsn, layO_len, List.length_take, hol0.out, show min (k + 1) 1 = k + 1 by omega] at hrun hown
          have hB5 : Below wb.heap.size wb w5 := below_grown hBi hgr hBi.size (fun q hq => by have := own_ge hrow q hq; omega)
          replace hrun := Lib.hid hrun
          replace hown := Lib.hid hown
          replace hB5 := Lib.hid hB5
          replace ho := Lib.hid ho
          replace hrow := Lib.hid hrow
          replace hBi := Lib.hid hBi
          clear hgr hsn hlen htk
          go_wp2_with (at_builtin; refine wpList_append_run rfl (.tmp 103) (.tmp 113) 49 rfl (.slice A4 k c4) _ _ rfl rfl hrun.out ?_)
          exact ⟨⟨k + 1, A5, c5, rfl, rfl, by omega, hown.out, hB5.out⟩, by simp [intOf]; omega⟩
        · obtain rfl : k = 1 := by omega
          have hta : ol.take 1 = ol := List.take_of_length_le (by rw [hol0.out]; exact Nat.le_refl _)
          rw [hta] at hrow
          have hDi := hD2.out.kept hBi
          have hBB : Below w.heap.size w wr := hB2.out.trans (hBi.mono hB2.out.size)
          have hXi := hX2.out.kept hBi hX2.out.lt
          have x1 := hXi.cell 1
          simp at x1
          have hacts : layO here 0 ol = [⟨false, here, 4, 0⟩] := by
            rw [← hol.out]
            simp only [layO, Nat.zero_add, lay_0 here hh.out]
          rw [hacts] at hrow
          obtain ⟨ga, hga⟩ : ∃ ga, A4 = some ⟨ga, 0, none⟩ := by
            rcases hrow.2 with ⟨_, h0⟩ | ⟨q, cap, cur, e, _⟩
            · cases h0
            · injection e with e1 _ _; exact ⟨q, e1⟩
          subst hga
          have f7 := hDi.bk.cell 0
          simp at f7
          have s3 := hrow.cellAt 3 (by decide)
          have s4 := hrow.frozenAt 3
          have hst3 := (hrow.stored 3 (.int .i64 x.1.at_)).1
          have hgw : wb.heap.size ≤ ga := own_ge hrow ga rfl
          have hB6 : Below wb.heap.size wb (wr.setCell ⟨ga, 3, none⟩ (.int .i64 x.1.at_)) := hBi.setCell (p := ⟨ga, 3, none⟩) hgw _
          have hD6 := hD2.out.kept hB6
          have hBB6 := hB2.out.trans (hB6.mono hB2.out.size)
          have hst4 : (wr.setCell ⟨ga, 3, none⟩ (.int .i64 x.1.at_)).ownsRow wb.heap.size 54 4 (.slice (some ⟨ga, 0, none⟩) 1 c4) 1 (actC [⟨false, here, 4, x.1.at_⟩]) := hst3
          have hFz := hD2.out.bk.lt
          obtain ⟨w6, hw6⟩ : ∃ w6, wr.setCell ⟨ga, 3, none⟩ (.int .i64 x.1.at_) = w6 := ⟨_, rfl⟩
          rw [hw6] at hD6 hBB6 hst4
          have f5 := hD6.bk.cell 0
          simp at f5
          have f6 := hD6.bk.free 0
          obtain ⟨hF7, hO7, Y, hR7, hL7⟩ := dpop hD6.rw hD6.bk hn.out hm1.out hD6.out
          have hrow7 := hO7.row hst4 (fun q hq e => by have := own_ge hst4 q hq; omega)
          have j2 : (m : Int) ≤ c := by
            obtain ⟨g1, c1, e, _, _, hc⟩ := hD6.rw.form (by rw [hn.out]; have := hm1.out; omega)
            injection e with _ _ e
            have := hn.out; have := hm1.out
            omega
          have j3 : m ≤ c := by omega
          have z3 : wr.cell? ⟨ga, 3, none⟩ = some (.int .i64 0) := s3
          have y8 : IntKind.i64.wrap (here + 8) = nxt here := rfl
          obtain ⟨y1, hy1⟩ : ∃ y, nxt here = y := ⟨_, rfl⟩
          rw [hy1] at y8
          replace hF7 := Lib.hid hF7
          replace hO7 := Lib.hid hO7
          replace hR7 := Lib.hid hR7
          replace hL7 := Lib.hid hL7
          replace hrow7 := Lib.hid hrow7
          replace hBB6 := Lib.hid hBB6
          replace hy1 := Lib.hid hy1
          have hw6' := Lib.hid hw6
          rw [← hw6] at f5 f6
          clear hst3 hst4 hB6 hD6 s3 hrow hBi hDi hBB hXi hta hacts hFz hgw hw6
          go_wp2_with (fail)
          go_returns
          have hst : Go.Proofs.Ytmfffaocmboelaa.step (X.map Prod.fst) 4 here = ⟨0, [⟨false, here, 4, x.1.at_⟩], (X.map Prod.fst).dropLast⟩ := by
            unfold Go.Proofs.Ytmfffaocmboelaa.step
            rw [if_neg (by decide), if_neg (by rw [htx.out]; exact fun h => h.2 hb.out)]
            simp only [eff, htx.out]
          rw [hst, hw6'.out]
          refine ⟨.slice (some ⟨ga, 0, none⟩) 1 c4, .slice (some ⟨g, 0, none⟩) m c, Y, rfl, own_base hrow7.out hB2.out.size, hF7.out, hR7.out.mono (fun _ h => .inl h), hL7.out, ?_⟩
          exact (Onl.of_below (s := fun k => k = F ∨ own k ∨ w.heap.size ≤ k) hBB6.out (fun k hk _ => hk)).trans (hO7.out.grow (fun k _ hk => .inl hk))
set_option maxHeartbeats 2000000 in
set_option maxRecDepth 100000 in
theorem dyes_5 (s : ByteArray) (here : Int) (h : Dl w F own v X) (hs : s.size ≤ maxLen) (hr : row s = 5) (hh : -9223372036854775808 ≤ here ∧ here ≤ 9223372036854775807) (hb : (topT (X.map Prod.fst)).k = 2) :
    Calls Try.prog 15 #[.pointer (some ⟨F, 0, none⟩), .string s, .int .i64 here] w fun e w' => Ddone w w' F own (Go.Proofs.Ytmfffaocmboelaa.step (X.map Prod.fst) (row s) here) e := by
  have hrr := rrow_any s w hs
  rw [hr, if_neg (by decide), show ((5 : Nat) : Int) = 5 from rfl] at hrr
  rw [hr]
  obtain ⟨m, hm0⟩ : ∃ m, X.length = m + 1 := by
    cases hX : X.length with
    | zero => rw [List.eq_nil_of_length_eq_zero hX] at hb; exact absurd hb (by decide)
    | succ m => exact ⟨m, rfl⟩
  obtain ⟨x, hx⟩ : ∃ x, X[m]? = some x := ⟨_, List.getElem?_eq_getElem (by omega)⟩
  have htx := topT_at rfl hm0 hx
  rw [htx] at hb
  obtain ⟨g, c0, hvg, _⟩ := h.rw.form (by omega)
  have htop : ∀ W, Dl W F own v X → Calls Try.prog 25 #[.pointer (some ⟨F, 0, none⟩), .int .i64 2] W fun e w' => e = .returned (.tuple #[dagg x, .bool true]) ∧ Below W.heap.size W w' := fun W hW => by
    have := rtop_yes hW hvg rfl hm0 hx
    rw [hb] at this
    exact this
  obtain ⟨Am, cm, hxm⟩ := own_form (h.rw.more x (List.mem_of_getElem? hx))
  unfold dagg at htop
  rw [hxm] at htop
  replace htop := Lib.hid htop
  replace hb := Lib.hid hb
  replace htx := Lib.hid htx
  replace hx := Lib.hid hx
  replace hm0 := Lib.hid hm0
  replace hxm := Lib.hid hxm
  replace hvg := Lib.hid hvg
  obtain ⟨A, c, hv⟩ := own_form h.rw.row
  obtain ⟨n, hn⟩ : ∃ n, X.length = n := ⟨_, rfl⟩
  rw [hn] at hv
  have hln := h.len
  rw [hn] at hln
  have i16 : (n : Int) ≤ 16 := by omega
  subst hv
  replace hrr := Lib.hid hrr
  replace h := Lib.hid h
  replace hn := Lib.hid hn
  replace hh := Lib.hid hh
  have hvg' := hvg.out
  injection hvg' with eA en ec
  clear en ec
  subst eA
  clear hvg
  have hm1 : n = m + 1 := by rw [← hn.out]; exact hm0.out
  have e1 : IntKind.i64.wrap ((n : Int) - 1) = (m : Int) := by rw [IntKind.wrap_i64]; omega
  have m0 : (0 : Int) ≤ m := by omega
  replace hm1 := Lib.hid hm1
  go_enter Try.func15, Try.ntmps15
  go_wp2_with (fail)
  refine hrr.out.mono ?_
  rintro e w1 ⟨rfl, hb1⟩
  have hw1z := Lib.hid hb1.size
  have hB1 : Below w.heap.size w (w1.alloc (.cells #[.int .i64 0, .int .i64 0, .int .i64 0, .slice none 0 0] 70)) := hb1.alloc hb1.size _
  have hX9 := Bk.fresh w1 70 #[.int .i64 0, .int .i64 0, .int .i64 0, .slice none 0 0]
  go_wp2_with (fail)
  obtain ⟨b9, hb9⟩ : ∃ b, w1.heap.size = b := ⟨_, rfl⟩
  obtain ⟨W, hW⟩ : ∃ W, w1.alloc (.cells #[.int .i64 0, .int .i64 0, .int .i64 0, .slice none 0 0] 70) = W := ⟨_, rfl⟩
  rw [hb9, hW] at hX9
  rw [hW] at hB1 ⊢
  try rw [hb9]
  clear hW hb1
  have hD := h.out.kept hB1
  have f0 := hD.bk.cell 0
  simp at f0
  replace hD := Lib.hid hD
  replace hB1 := Lib.hid hB1
  replace hX9 := Lib.hid hX9
  replace hb9 := Lib.hid hb9
  refine (rwants_5 W).mono ?_
  rintro e w2 ⟨rfl, hw2⟩
  replace hw2 := hw2.symm
  subst hw2
  go_wp2_with (fail)
  refine (htop.out _ hD.out).mono ?_
  rintro e w3 ⟨rfl, hb3⟩
  have hX3 := (hX9.out.kept hb3 hX9.out.lt).past (.cells #[.int .i64 (x.1.k : Int), .int .i64 x.1.at_, .int .i64 x.1.tgt, .slice Am x.1.more.length cm] 70)
  have x0 := hX3.cell 0
  have x1 := hX3.cell 1
  have x2 := hX3.cell 2
  have x3 := hX3.cell 3
  have z0 := hX3.free 0
  have z1 := hX3.free 1
  have z2 := hX3.free 2
  have z3 := hX3.free 3
  simp at x0 x1 x2 x3
  replace hX3 := Lib.hid hX3
  clear f0
  go_wp2_with (fail)
  have hB4 := hB1.out.trans (((hb3.alloc hb3.size (.cells #[.int .i64 (x.1.k : Int), .int .i64 x.1.at_, .int .i64 x.1.tgt, .slice Am x.1.more.length cm] 70))).mono hB1.out.size)
  have hb9w : w.heap.size ≤ b9 := by rw [← hb9.out]; exact hw1z.out
  have hX4 := (((hX3.out.put 0 (.int .i64 (x.1.k : Int))).put 1 (.int .i64 x.1.at_)).put 2 (.int .i64 x.1.tgt)).put 3 (.slice Am x.1.more.length cm)
  have hB5 := (((hB4.setCell (p := ⟨b9, 0, none⟩) hb9w (.int .i64 (x.1.k : Int))).setCell (p := ⟨b9, 1, none⟩) hb9w (.int .i64 x.1.at_)).setCell (p := ⟨b9, 2, none⟩) hb9w (.int .i64 x.1.tgt)).setCell (p := ⟨b9, 3, none⟩) hb9w (.slice Am x.1.more.length cm)
  obtain ⟨W4, hW4⟩ : ∃ W4, (((((w3.alloc (.cells #[.int .i64 (x.1.k : Int), .int .i64 x.1.at_, .int .i64 x.1.tgt, .slice Am x.1.more.length cm] 70)).setCell ⟨b9, 0, none⟩ (.int .i64 (x.1.k : Int))).setCell ⟨b9, 1, none⟩ (.int .i64 x.1.at_)).setCell ⟨b9, 2, none⟩ (.int .i64 x.1.tgt)).setCell ⟨b9, 3, none⟩ (.slice Am x.1.more.length cm)) = W4 := ⟨_, rfl⟩
  rw [hW4] at hX4 hB5 ⊢
  simp at hX4
  clear hW4 x0 x1 x2 x3 z0 z1 z2 z3 hX3 hB4 hb3 hD hB1 hX9
  have hD := h.out.kept hB5
  have hB1 := Lib.hid hB5
  have hX9 := Lib.hid hX4
  have f0 := hD.bk.cell 0
  simp at f0
  replace hD := Lib.hid hD
  clear hB5 hX4
  go_loopw [13, 14] (fun x13 x14 wr => ∃ j : Nat, Hid (x13 = .int .i64 (lastV (X.map Prod.fst) j)) ∧ x14 = .int .i64 j ∧ j ≤ n ∧ wr = W4) (fun _ x14 _ => n - (intOf x14).toNat)
  case atStart => exact ⟨0, rfl, rfl, by omega, rfl⟩
  case round =>
    obtain ⟨j, hx13, rfl, hj, rfl⟩ := hrel
    have j0 : (0 : Int) ≤ j := by omega
    by_cases hjn : j < n
    · have hjz := hjn
      have j1 : (j : Int) < n := by omega
      obtain ⟨xj, hxj⟩ : ∃ x, X[j]? = some x := ⟨_, List.getElem?_eq_getElem (by have := hn.out; omega)⟩
      have hTd := Rwd.tp (c := c) (by have := hD.out.rw; rw [← hn.out] at this; exact this) j xj hxj
      have t0 := hTd.c0
      have hget := getD_th X j xj hxj
      replace hTd := Lib.hid hTd
      replace hxj := Lib.hid hxj
      by_cases hk : xj.1.k = 4
      · have z : ((xj.1.k : Int) == 4) = true := by simp [hk]
        have hlv := lastV_yes (X.map Prod.fst) j (by rw [hget]; exact hk)
        obtain ⟨kk, hkk⟩ : ∃ kk : Int, (xj.1.k : Int) = kk := ⟨_, rfl⟩
        rw [hkk] at z t0
        replace hkk := Lib.hid hkk
        replace hlv := Lib.hid hlv
        clear hk hget
        go_wp2_with (fail)
        exact ⟨⟨j + 1, Lib.hid (by rw [hlv.out]), rfl, by omega, (by first | trivial | rfl)⟩, by simp [intOf]; omega⟩
      · have z : ((xj.1.k : Int) == 4) = false := by simp; omega
        have hlv := lastV_no (X.map Prod.fst) j (by rw [hget]; exact hk)
        obtain ⟨kk, hkk⟩ : ∃ kk : Int, (xj.1.k : Int) = kk := ⟨_, rfl⟩
        rw [hkk] at z t0
        replace hkk := Lib.hid hkk
        replace hlv := Lib.hid hlv
        clear hk hget
        go_wp2_with (fail)
        exact ⟨⟨j + 1, Lib.hid (by rw [hlv.out]; exact hx13.out), rfl, by omega, (by first | trivial | rfl)⟩, by simp [intOf]; omega⟩
    · have e : j = n := by omega
      subst e
      have j1 : ¬ (j : Int) < j := by omega
      clear hjn
      go_wp2_with (fail)
      obtain ⟨wb, hwb⟩ : ∃ wb, wr.alloc (.cells #[.int .i64 5] 3) = wb := ⟨_, rfl⟩
      have hK8 := Bk.fresh wr 3 #[.int .i64 5]
      have hBw : Below wr.heap.size wr (wr.alloc (.cells #[.int .i64 5] 3)) := (Below.refl _ _).alloc (Nat.le_refl _) _
      rw [hwb] at hK8 hBw
      have hB2 := hB1.out.trans (hBw.mono hB1.out.size)
      have hD2 := hD.out.kept hBw
      have hX2 := hX9.out.kept hBw hX9.out.lt
      refine (rlays_5 wr).mono ?_
      rintro e w2 ⟨rfl, hw2⟩
      rw [hwb] at hw2
      replace hw2 := hw2.symm
      subst hw2
      obtain ⟨b8, hb8⟩ : ∃ b, wr.heap.size = b := ⟨_, rfl⟩
      rw [hb8] at hK8 ⊢
      obtain ⟨ol, hol⟩ : ∃ ol : List Int, [5] = ol := ⟨_, rfl⟩
      have hol0 : ol.length = 1 := by rw [← hol]; rfl
      rw [show (#[.int .i64 5] : Array Value) = (i64s [5]).toArray from rfl, hol] at hK8
      replace hK8 := Lib.hid hK8
      replace hB2 := Lib.hid hB2
      replace hD2 := Lib.hid hD2
      replace hX2 := Lib.hid hX2
      replace hol := Lib.hid hol
      replace hol0 := Lib.hid hol0
      clear hBw hwb f0 hb8
      go_wp2_with (fail)
      go_loopw [16, 18] (fun x16 x18 wi => ∃ (k : Nat) (A4 : Option Addr) (c4 : Nat), x16 = .slice A4 k c4 ∧ x18 = .int .i64 k ∧ k ≤ 1 ∧ wi.ownsRow wb.heap.size 54 4 (.slice A4 k c4) k (actC (layO here 0 (ol.take k))) ∧ Below wb.heap.size wb wi) (fun _ x18 _ => 1 - (intOf x18).toNat)
      case atStart => exact ⟨0, none, 0, rfl, rfl, by omega, World.ownsRow_nil _ _ _ _, Below.refl _ _⟩
      case round =>
        obtain ⟨k, A4, c4, rfl, rfl, hk, hrow, hBi⟩ := hrel
        by_cases hkl : k < 1
        · have hkz := hkl
          have k0 : (0 : Int) ≤ k := by omega
          have k1 : (k : Int) < 1 := by omega
          obtain ⟨o, ho⟩ : ∃ o, ol[k]? = some o := ⟨_, List.getElem?_eq_getElem (by rw [hol0.out]; exact hkl)⟩
          have c0 : wr.cell? ⟨b8, k, none⟩ = some (.int .i64 o) := by
            have hb := hK8.out.kept hBi hK8.out.lt
            rw [hb.cell k]
            simp [i64s, ho]
          have htk : ol.take (k + 1) = ol.take k ++ [o] := by
            obtain ⟨hk3, rfl⟩ := List.getElem?_eq_some_iff.1 ho
            exact List.take_succ_eq_append_getElem hk3
          have hlen : (layO here 0 (ol.take k)).length = k := by rw [layO_len, List.length_take, hol0.out]; omega
          have hsn := layO_snoc here o (ol.take k) 0
          rw [← htk, List.length_take, hol0.out, show 0 + min k 1 = k by omega] at hsn
          have e8 : IntKind.i64.wrap (8 * (k : Int)) = 8 * k := by rw [IntKind.wrap_i64]; omega
          rw [e8] at hsn
          obtain ⟨z, hz⟩ : ∃ z, IntKind.i64.wrap (here + 8 * (k : Int)) = z := ⟨_, rfl⟩
          rw [hz] at hsn
          obtain ⟨A5, c5, w5, hrun, hown, hgr⟩ := dact_append (w := wr) (base := wb.heap.size) ⟨false, z, o, 0⟩ (by rw [hlen]; exact hrow) hBi.size (by rw [hlen]; omega)
          rw [← hsn, layO_len, List.length_take, hol0.out, show min (k + 1) 1 = k + 1 by omega] at hrun hown
          have hB5 : Below wb.heap.size wb w5 := below_grown hBi hgr hBi.size (fun q hq => by have := own_ge hrow q hq; omega)
          replace hrun := Lib.hid hrun
          replace hown := Lib.hid hown
          replace hB5 := Lib.hid hB5
          replace ho := Lib.hid ho
          replace hrow := Lib.hid hrow
          replace hBi := Lib.hid hBi
          clear hgr hsn hlen htk
          go_wp2_with (at_builtin; refine wpList_append_run rfl (.tmp 103) (.tmp 113) 49 rfl (.slice A4 k c4) _ _ rfl rfl hrun.out ?_)
          exact ⟨⟨k + 1, A5, c5, rfl, rfl, by omega, hown.out, hB5.out⟩, by simp [intOf]; omega⟩
        · obtain rfl : k = 1 := by omega
          have hta : ol.take 1 = ol := List.take_of_length_le (by rw [hol0.out]; exact Nat.le_refl _)
          rw [hta] at hrow
          have hDi := hD2.out.kept hBi
          have hBB : Below w.heap.size w wr := hB2.out.trans (hBi.mono hB2.out.size)
          have hXi := hX2.out.kept hBi hX2.out.lt
          have x1 := hXi.cell 1
          simp at x1
          have hacts : layO here 0 ol = [⟨false, here, 5, 0⟩] := by
            rw [← hol.out]
            simp only [layO, Nat.zero_add, lay_0 here hh.out]
          rw [hacts] at hrow
          obtain ⟨ga, hga⟩ : ∃ ga, A4 = some ⟨ga, 0, none⟩ := by
            rcases hrow.2 with ⟨_, h0⟩ | ⟨q, cap, cur, e, _⟩
            · cases h0
            · injection e with e1 _ _; exact ⟨q, e1⟩
          subst hga
          have f7 := hDi.bk.cell 0
          simp at f7
          have s3 := hrow.cellAt 3 (by decide)
          have s4 := hrow.frozenAt 3
          have hst3 := (hrow.stored 3 (.int .i64 x.1.at_)).1
          have hgw : wb.heap.size ≤ ga := own_ge hrow ga rfl
          have hB6 : Below wb.heap.size wb (wr.setCell ⟨ga, 3, none⟩ (.int .i64 x.1.at_)) := hBi.setCell (p := ⟨ga, 3, none⟩) hgw _
          have hD6 := hD2.out.kept hB6
          have hBB6 := hB2.out.trans (hB6.mono hB2.out.size)
          have hst4 : (wr.setCell ⟨ga, 3, none⟩ (.int .i64 x.1.at_)).ownsRow wb.heap.size 54 4 (.slice (some ⟨ga, 0, none⟩) 1 c4) 1 (actC [⟨false, here, 5, x.1.at_⟩]) := hst3
          have hFz := hD2.out.bk.lt
          obtain ⟨w6, hw6⟩ : ∃ w6, wr.setCell ⟨ga, 3, none⟩ (.int .i64 x.1.at_) = w6 := ⟨_, rfl⟩
          rw [hw6] at hD6 hBB6 hst4
          have f5 := hD6.bk.cell 0
          simp at f5
          have f6 := hD6.bk.free 0
          obtain ⟨hF7, hO7, Y, hR7, hL7⟩ := dpop hD6.rw hD6.bk hn.out hm1.out hD6.out
          have hrow7 := hO7.row hst4 (fun q hq e => by have := own_ge hst4 q hq; omega)
          have j2 : (m : Int) ≤ c := by
            obtain ⟨g1, c1, e, _, _, hc⟩ := hD6.rw.form (by rw [hn.out]; have := hm1.out; omega)
            injection e with _ _ e
            have := hn.out; have := hm1.out
            omega
          have j3 : m ≤ c := by omega
          have z3 : wr.cell? ⟨ga, 3, none⟩ = some (.int .i64 0) := s3
          have y8 : IntKind.i64.wrap (here + 8) = nxt here := rfl
          obtain ⟨y1, hy1⟩ : ∃ y, nxt here = y := ⟨_, rfl⟩
          rw [hy1] at y8
          replace hF7 := Lib.hid hF7
          replace hO7 := Lib.hid hO7
          replace hR7 := Lib.hid hR7
          replace hL7 := Lib.hid hL7
          replace hrow7 := Lib.hid hrow7
          replace hBB6 := Lib.hid hBB6
          replace hy1 := Lib.hid hy1
          have hw6' := Lib.hid hw6
          rw [← hw6] at f5 f6
          clear hst3 hst4 hB6 hD6 s3 hrow hBi hDi hBB hXi hta hacts hFz hgw hw6
          go_wp2_with (fail)
          go_returns
          have hst : Go.Proofs.Ytmfffaocmboelaa.step (X.map Prod.fst) 5 here = ⟨0, [⟨false, here, 5, x.1.at_⟩], (X.map Prod.fst).dropLast⟩ := by
            unfold Go.Proofs.Ytmfffaocmboelaa.step
            rw [if_neg (by decide), if_neg (by rw [htx.out]; exact fun h => h.2 hb.out)]
            simp only [eff, htx.out]
          rw [hst, hw6'.out]
          refine ⟨.slice (some ⟨ga, 0, none⟩) 1 c4, .slice (some ⟨g, 0, none⟩) m c, Y, rfl, own_base hrow7.out hB2.out.size, hF7.out, hR7.out.mono (fun _ h => .inl h), hL7.out, ?_⟩
          exact (Onl.of_below (s := fun k => k = F ∨ own k ∨ w.heap.size ≤ k) hBB6.out (fun k hk _ => hk)).trans (hO7.out.grow (fun k _ hk => .inl hk))
end
end Go.Proofs.Ytmfffaocmboelaa
