import Derived.Test.YtmfffaocmboelaaDwF
namespace Go.Proofs.Ytmfffaocmboelaa
open Go.RowKit
set_option linter.unusedVariables false
set_option linter.unusedSimpArgs false
/-! the document's Word: rows that want something on top -/
section
variable {w w' : World} {F : Nat} {own : Nat → Prop} {v : Value} {X : List (Th × Value)}
theorem size_setCell (w : World) (p : Addr) (v : Value) : (w.setCell p v).heap.size = w.heap.size := by simp [World.setCell]
theorem Rwd.draw {W : World} {own' : Nat → Prop} {v' : Value} {X2 : List (Th × Value)} (h : Rwd W own' v' X2) : Rwd W.drew own' v' X2 := ⟨h.row, h.more, h.dist, h.own1, h.own2⟩
theorem dput {W : World} {own' : Nat → Prop} {g c n m : Nat} {X2 : List (Th × Value)} {k : Nat} {a tg : Int} (hR : Rwd W own' (.slice (some ⟨g, 0, none⟩) n c) X2) (hX : X2.length = n) (hm : n = m + 1) :
    ∃ Y, Rwd (set4 W g (m * 4) (.int .i64 (k : Int)) (.int .i64 a) (.int .i64 tg) (.slice none 0 0)) own' (.slice (some ⟨g, 0, none⟩) n c) Y ∧ Y.map Prod.fst = (X2.map Prod.fst).dropLast ++ [⟨k, a, tg, []⟩] ∧
      Onl (fun j => j = g) W (set4 W g (m * 4) (.int .i64 (k : Int)) (.int .i64 a) (.int .i64 tg) (.slice none 0 0)) ∧ own' g ∧
      W.cell? ⟨g, m * 4, none⟩ = some (.int .i64 ((X2.map Prod.fst).getD m th0).k) ∧ W.cell? ⟨g, m * 4 + 1, none⟩ = some (.int .i64 ((X2.map Prod.fst).getD m th0).at_) ∧ W.cell? ⟨g, m * 4 + 2, none⟩ = some (.int .i64 ((X2.map Prod.fst).getD m th0).tgt) ∧ (∃ v, W.cell? ⟨g, m * 4 + 3, none⟩ = some v) ∧ ∀ i, W.frozen? ⟨g, i, none⟩ = false := by
  have hne : X2 ≠ [] := by rintro rfl; simp at hX; omega
  obtain ⟨Y, x, rfl⟩ : ∃ Y x, X2 = Y ++ [x] := ⟨X2.dropLast, X2.getLast hne, (List.dropLast_concat_getLast hne).symm⟩
  have hY : Y.length = m := by simp at hX; omega
  subst hY
  have hn : n = (Y ++ [x]).length := hX.symm
  subst hn
  have ht := hR.tp Y.length x (by simp)
  have hg : ((Y ++ [x]).map Prod.fst).getD Y.length th0 = x.1 := by simp
  have hl : (Y ++ [((⟨k, a, tg, []⟩ : Th), Value.slice none 0 0)]).length = (Y ++ [x]).length := by simp
  rw [hg]
  refine ⟨Y ++ [((⟨k, a, tg, []⟩ : Th), Value.slice none 0 0)], by rw [← hl]; exact hR.top k a tg, by simp, (Onl.refl (fun j => j = g) W).set4 rfl _ _ _ _, hR.own1 g rfl, ht.c0, ht.c1, ht.c2, ⟨_, ht.c3⟩, ht.fr⟩
set_option maxHeartbeats 2000000 in
set_option maxRecDepth 100000 in
theorem dyes_1 (s : ByteArray) (here : Int) (h : Dl w F own v X) (hs : s.size ≤ maxLen) (hr : row s = 1) (hh : -9223372036854775808 ≤ here ∧ here ≤ 9223372036854775807) (hb : (topT (X.map Prod.fst)).k = 1) :
    Calls Try.prog 15 #[.pointer (some ⟨F, 0, none⟩), .string s, .int .i64 here] w fun e w' => Ddone w w' F own (Go.Proofs.Ytmfffaocmboelaa.step (X.map Prod.fst) (row s) here) e := by
  have hrr := rrow_any s w hs
  rw [hr, if_neg (by decide), show ((1 : Nat) : Int) = 1 from rfl] at hrr
  rw [hr]
  obtain ⟨m, hm0⟩ : ∃ m, X.length = m + 1 := by
    cases hX : X.length with
    | zero => rw [List.eq_nil_of_length_eq_zero hX] at hb; exact absurd hb (by decide)
    | succ m => exact ⟨m, rfl⟩
  obtain ⟨x, hx⟩ : ∃ x, X[m]? = some x := ⟨_, List.getElem?_eq_getElem (by omega)⟩
  have htx := topT_at rfl hm0 hx
  rw [htx] at hb
  obtain ⟨g, c0, hvg, _⟩ := h.rw.form (by omega)
  have htop : ∀ W, Dl W F own v X → Calls Try.prog 25 #[.pointer (some ⟨F, 0, none⟩), .int .i64 1] W fun e w' => e = .returned (.tuple #[dagg x, .bool true]) ∧ Below W.heap.size W w' := fun W hW => by
    have := rtop_yes hW hvg rfl hm0 hx
    rw [hb] at this
    exact this
  obtain ⟨Am, cm, hxm⟩ := own_form (h.rw.more x (List.mem_of_getElem? hx))
  unfold dagg at htop
  rw [hxm] at htop
  replace htop := Lib.hid htop
  replace hb := Lib.hid hb
  replace htx := Lib.hid htx
  replace hx := Lib.hid hx
  replace hm0 := Lib.hid hm0
  replace hxm := Lib.hid hxm
  replace hvg := Lib.hid hvg
  obtain ⟨A, c, hv⟩ := own_form h.rw.row
  obtain ⟨n, hn⟩ : ∃ n, X.length = n := ⟨_, rfl⟩
  rw [hn] at hv
  have hln := h.len
  rw [hn] at hln
  have i16 : (n : Int) ≤ 16 := by omega
  subst hv
  replace hrr := Lib.hid hrr
  replace h := Lib.hid h
  replace hn := Lib.hid hn
  replace hh := Lib.hid hh
  have hvg' := hvg.out
  injection hvg' with eA en ec
  clear en ec
  subst eA
  clear hvg
  have hm1 : n = m + 1 := by rw [← hn.out]; exact hm0.out
  have e1 : IntKind.i64.wrap ((n : Int) - 1) = (m : Int) := by rw [IntKind.wrap_i64]; omega
  have m0 : (0 : Int) ≤ m := by omega
  replace hm1 := Lib.hid hm1
  go_enter Try.func15, Try.ntmps15
  go_wp2_with (fail)
  refine hrr.out.mono ?_
  rintro e w1 ⟨rfl, hb1⟩
  have hw1z := Lib.hid hb1.size
  have hB1 : Below w.heap.size w (w1.alloc (.cells #[.int .i64 0, .int .i64 0, .int .i64 0, .slice none 0 0] 70)) := hb1.alloc hb1.size _
  have hX9 := Bk.fresh w1 70 #[.int .i64 0, .int .i64 0, .int .i64 0, .slice none 0 0]
  go_wp2_with (fail)
  obtain ⟨b9, hb9⟩ : ∃ b, w1.heap.size = b := ⟨_, rfl⟩
  obtain ⟨W, hW⟩ : ∃ W, w1.alloc (.cells #[.int .i64 0, .int .i64 0, .int .i64 0, .slice none 0 0] 70) = W := ⟨_, rfl⟩
  rw [hb9, hW] at hX9
  rw [hW] at hB1 ⊢
  try rw [hb9]
  clear hW hb1
  have hD := h.out.kept hB1
  have f0 := hD.bk.cell 0
  simp at f0
  replace hD := Lib.hid hD
  replace hB1 := Lib.hid hB1
  replace hX9 := Lib.hid hX9
  replace hb9 := Lib.hid hb9
  refine (rwants_1 W).mono ?_
  rintro e w2 ⟨rfl, hw2⟩
  replace hw2 := hw2.symm
  subst hw2
  go_wp2_with (fail)
  refine (htop.out _ hD.out).mono ?_
  rintro e w3 ⟨rfl, hb3⟩
  have hX3 := (hX9.out.kept hb3 hX9.out.lt).past (.cells #[.int .i64 (x.1.k : Int), .int .i64 x.1.at_, .int .i64 x.1.tgt, .slice Am x.1.more.length cm] 70)
  have x0 := hX3.cell 0
  have x1 := hX3.cell 1
  have x2 := hX3.cell 2
  have x3 := hX3.cell 3
  have z0 := hX3.free 0
  have z1 := hX3.free 1
  have z2 := hX3.free 2
  have z3 := hX3.free 3
  simp at x0 x1 x2 x3
  replace hX3 := Lib.hid hX3
  clear f0
  go_wp2_with (fail)
  have hB4 := hB1.out.trans (((hb3.alloc hb3.size (.cells #[.int .i64 (x.1.k : Int), .int .i64 x.1.at_, .int .i64 x.1.tgt, .slice Am x.1.more.length cm] 70))).mono hB1.out.size)
  have hb9w : w.heap.size ≤ b9 := by rw [← hb9.out]; exact hw1z.out
  have hX4 := (((hX3.out.put 0 (.int .i64 (x.1.k : Int))).put 1 (.int .i64 x.1.at_)).put 2 (.int .i64 x.1.tgt)).put 3 (.slice Am x.1.more.length cm)
  have hB5 := (((hB4.setCell (p := ⟨b9, 0, none⟩) hb9w (.int .i64 (x.1.k : Int))).setCell (p := ⟨b9, 1, none⟩) hb9w (.int .i64 x.1.at_)).setCell (p := ⟨b9, 2, none⟩) hb9w (.int .i64 x.1.tgt)).setCell (p := ⟨b9, 3, none⟩) hb9w (.slice Am x.1.more.length cm)
  obtain ⟨W4, hW4⟩ : ∃ W4, (((((w3.alloc (.cells #[.int .i64 (x.1.k : Int), .int .i64 x.1.at_, .int .i64 x.1.tgt, .slice Am x.1.more.length cm] 70)).setCell ⟨b9, 0, none⟩ (.int .i64 (x.1.k : Int))).setCell ⟨b9, 1, none⟩ (.int .i64 x.1.at_)).setCell ⟨b9, 2, none⟩ (.int .i64 x.1.tgt)).setCell ⟨b9, 3, none⟩ (.slice Am x.1.more.length cm)) = W4 := ⟨_, rfl⟩
  rw [hW4] at hX4 hB5 ⊢
  simp at hX4
  clear hW4 x0 x1 x2 x3 z0 z1 z2 z3 hX3 hB4 hb3 hD hB1 hX9
  have hD := h.out.kept hB5
  have hB1 := Lib.hid hB5
  have hX9 := Lib.hid hX4
  have f0 := hD.bk.cell 0
  simp at f0
  replace hD := Lib.hid hD
  clear hB5 hX4
  go_loopw [13, 14] (fun x13 x14 wr => ∃ j : Nat, Hid (x13 = .int .i64 (lastV (X.map Prod.fst) j)) ∧ x14 = .int .i64 j ∧ j ≤ n ∧ wr = W4) (fun _ x14 _ => n - (intOf x14).toNat)
  case atStart => exact ⟨0, rfl, rfl, by omega, rfl⟩
  case round =>
    obtain ⟨j, hx13, rfl, hj, rfl⟩ := hrel
    have j0 : (0 : Int) ≤ j := by omega
    by_cases hjn : j < n
    · have hjz := hjn
      have j1 : (j : Int) < n := by omega
      obtain ⟨xj, hxj⟩ : ∃ x, X[j]? = some x := ⟨_, List.getElem?_eq_getElem (by have := hn.out; omega)⟩
      have hTd := Rwd.tp (c := c) (by have := hD.out.rw; rw [← hn.out] at this; exact this) j xj hxj
      have t0 := hTd.c0
      have hget := getD_th X j xj hxj
      replace hTd := Lib.hid hTd
      replace hxj := Lib.hid hxj
      by_cases hk : xj.1.k = 4
      · have z : ((xj.1.k : Int) == 4) = true := by simp [hk]
        have hlv := lastV_yes (X.map Prod.fst) j (by rw [hget]; exact hk)
        obtain ⟨kk, hkk⟩ : ∃ kk : Int, (xj.1.k : Int) = kk := ⟨_, rfl⟩
        rw [hkk] at z t0
        replace hkk := Lib.hid hkk
        replace hlv := Lib.hid hlv
        clear hk hget
        go_wp2_with (fail)
        exact ⟨⟨j + 1, Lib.hid (by rw [hlv.out]), rfl, by omega, (by first | trivial | rfl)⟩, by simp [intOf]; omega⟩
      · have z : ((xj.1.k : Int) == 4) = false := by simp; omega
        have hlv := lastV_no (X.map Prod.fst) j (by rw [hget]; exact hk)
        obtain ⟨kk, hkk⟩ : ∃ kk : Int, (xj.1.k : Int) = kk := ⟨_, rfl⟩
        rw [hkk] at z t0
        replace hkk := Lib.hid hkk
        replace hlv := Lib.hid hlv
        clear hk hget
        go_wp2_with (fail)
        exact ⟨⟨j + 1, Lib.hid (by rw [hlv.out]; exact hx13.out), rfl, by omega, (by first | trivial | rfl)⟩, by simp [intOf]; omega⟩
    · have e : j = n := by omega
      subst e
      have j1 : ¬ (j : Int) < j := by omega
      clear hjn
      go_wp2_with (fail)
      obtain ⟨wb, hwb⟩ : ∃ wb, wr.alloc (.cells #[.int .i64 4] 3) = wb := ⟨_, rfl⟩
      have hK8 := Bk.fresh wr 3 #[.int .i64 4]
      have hBw : Below wr.heap.size wr (wr.alloc (.cells #[.int .i64 4] 3)) := (Below.refl _ _).alloc (Nat.le_refl _) _
      rw [hwb] at hK8 hBw
      have hB2 := hB1.out.trans (hBw.mono hB1.out.size)
      have hD2 := hD.out.kept hBw
      have hX2 := hX9.out.kept hBw hX9.out.lt
      refine (rlays_1 wr).mono ?_
      rintro e w2 ⟨rfl, hw2⟩
      rw [hwb] at hw2
      replace hw2 := hw2.symm
      subst hw2
      obtain ⟨b8, hb8⟩ : ∃ b, wr.heap.size = b := ⟨_, rfl⟩
      rw [hb8] at hK8 ⊢
      obtain ⟨ol, hol⟩ : ∃ ol : List Int, [4] = ol := ⟨_, rfl⟩
      have hol0 : ol.length = 1 := by rw [← hol]; rfl
      rw [show (#[.int .i64 4] : Array Value) = (i64s [4]).toArray from rfl, hol] at hK8
      replace hK8 := Lib.hid hK8
      replace hB2 := Lib.hid hB2
      replace hD2 := Lib.hid hD2
      replace hX2 := Lib.hid hX2
      replace hol := Lib.hid hol
      replace hol0 := Lib.hid hol0
      clear hBw hwb f0 hb8
      go_wp2_with (fail)
      go_loopw [16, 18] (fun x16 x18 wi => ∃ (k : Nat) (A4 : Option Addr) (c4 : Nat), x16 = .slice A4 k c4 ∧ x18 = .int .i64 k ∧ k ≤ 1 ∧ wi.ownsRow wb.heap.size 54 4 (.slice A4 k c4) k (actC (layO here 0 (ol.take k))) ∧ Below wb.heap.size wb wi) (fun _ x18 _ => 1 - (intOf x18).toNat)
      case atStart => exact ⟨0, none, 0, rfl, rfl, by omega, World.ownsRow_nil _ _ _ _, Below.refl _ _⟩
      case round =>
        obtain ⟨k, A4, c4, rfl, rfl, hk, hrow, hBi⟩ := hrel
        by_cases hkl : k < 1
        · have hkz := hkl
          have k0 : (0 : Int) ≤ k := by omega
          have k1 : (k : Int) < 1 := by omega
          obtain ⟨o, ho⟩ : ∃ o, ol[k]? = some o := ⟨_, List.getElem?_eq_getElem (by rw [hol0.out]; exact hkl)⟩
          have c0 : wr.cell? ⟨b8, k, none⟩ = some (.int .i64 o) := by
            have hb := hK8.out.kept hBi hK8.out.lt
            rw [hb.cell k]
            simp [i64s, ho]
          have htk : ol.take (k + 1) = ol.take k ++ [o] := by
            obtain ⟨hk3, rfl⟩ := List.getElem?_eq_some_iff.1 ho
            exact List.take_succ_eq_append_getElem hk3
          have hlen : (layO here 0 (ol.take k)).length = k := by rw [layO_len, List.length_take, hol0.out]; omega
          have hsn := layO_snoc here o (ol.take k) 0
          rw [← htk, List.length_take, hol0.out, show 0 + min k 1 = k by omega] at hsn
          have e8 : IntKind.i64.wrap (8 * (k : Int)) = 8 * k := by rw [IntKind.wrap_i64]; omega
          rw [e8] at hsn
          obtain ⟨z, hz⟩ : ∃ z, IntKind.i64.wrap (here + 8 * (k : Int)) = z := ⟨_, rfl⟩
          rw [hz] at hsn
          obtain ⟨A5, c5, w5, hrun, hown, hgr⟩ := dact_append (w := wr) (base := wb.heap.size) ⟨false, z, o, 0⟩ (by rw [hlen]; exact hrow) hBi.size (by rw [hlen]; omega)
          rw [← hsn, layO_len, List.length_take, hol0.out, show min (k + 1) 1 = k + 1 by omega] at hrun hown
          have hB5 : Below wb.heap.size wb w5 := below_grown hBi hgr hBi.size (fun q hq => by have := own_ge hrow q hq; omega)
          replace hrun := Lib.hid hrun
          replace hown := Lib.hid hown
          replace hB5 := Lib.hid hB5
          replace ho := Lib.hid ho
          replace hrow := Lib.hid hrow
          replace hBi := Lib.hid hBi
          clear hgr hsn hlen htk
          go_wp2_with (at_builtin; refine wpList_append_run rfl (.tmp 103) (.tmp 113) 49 rfl (.slice A4 k c4) _ _ rfl rfl hrun.out ?_)
          exact ⟨⟨k + 1, A5, c5, rfl, rfl, by omega, hown.out, hB5.out⟩, by simp [intOf]; omega⟩
        · obtain rfl : k = 1 := by omega
          have hta : ol.take 1 = ol := List.take_of_length_le (by rw [hol0.out]; exact Nat.le_refl _)
          rw [hta] at hrow
          have hDi := hD2.out.kept hBi
          have hBB : Below w.heap.size w wr := hB2.out.trans (hBi.mono hB2.out.size)
          have hXi := hX2.out.kept hBi hX2.out.lt
          have x1 := hXi.cell 1
          have x2 := hXi.cell 2
          have x3 := hXi.cell 3
          simp at x1 x2 x3
          have f7 := hDi.bk.cell 0
          simp at f7
          have hacts : layO here 0 ol = [⟨false, here, 4, 0⟩] := by
            rw [← hol.out]
            simp only [layO, Nat.zero_add, lay_0 here hh.out]
          rw [hacts] at hrow
          have y8 : IntKind.i64.wrap (here + 8) = nxt here := rfl
          obtain ⟨A5, c5, w5, hrun, hown, hgr⟩ := dact_append (w := wr) (base := wb.heap.size) ⟨true, x.1.at_, 0, nxt here⟩ hrow hBi.size (by simp)
          simp only [List.cons_append, List.nil_append, List.length_cons, List.length_nil, Nat.zero_add, Nat.reduceAdd] at hrun hown
          have hB5 : Below wb.heap.size wb w5 := below_grown hBi hgr hBi.size (fun q hq => own_ge hrow q hq)
          have hD5 := hD2.out.kept hB5
          have hBB5 := hB2.out.trans (hB5.mono hB2.out.size)
          have f5 := hD5.bk.cell 0
          simp at f5
          obtain ⟨Y, hR6, hL6, hO6, hog, t0, t1, t2, ⟨vv, t3⟩, u0⟩ := dput (k := 1) (a := here) (tg := 0) hD5.rw hn.out hm1.out
          have u1 := u0 (m * 4)
          have u2 := u0 (m * 4 + 1)
          have u3 := u0 (m * 4 + 2)
          have u4 := u0 (m * 4 + 3)
          have hF6 := hO6.bk hD5.bk (fun e => hD5.out (by rw [e]; exact hog))
          have hrow6 := hO6.row hown (fun q hq e => by have := own_ge hown q hq; have := hD2.out.old g hog; omega)
          have m1 : (m : Int) < j := by have := hm1.out; omega
          obtain ⟨y1, hy1⟩ : ∃ y, nxt here = y := ⟨_, rfl⟩
          rw [hy1] at y8
          rw [hy1] at hrun hown hrow6
          replace hrun := Lib.hid hrun
          replace hF6 := Lib.hid hF6
          replace hO6 := Lib.hid hO6
          replace hR6 := Lib.hid hR6
          replace hL6 := Lib.hid hL6
          replace hrow6 := Lib.hid hrow6
          replace hBB5 := Lib.hid hBB5
          replace hBB := Lib.hid hBB
          replace hog := Lib.hid hog
          replace hy1 := Lib.hid hy1
          clear hgr hB5 hD5 hown hrow hBi hDi hXi hta hacts u0
          unfold set4 at hR6 hF6 hO6 hrow6
          go_wp2_with (at_builtin; refine wpList_append_run rfl (.tmp 141) (.tmp 146) 49 rfl (.slice A4 1 c4) _ _ rfl rfl hrun.out ?_)
          go_returns
          have hst : Go.Proofs.Ytmfffaocmboelaa.step (X.map Prod.fst) 1 here = ⟨0, [⟨false, here, 4, 0⟩, ⟨true, x.1.at_, 0, y1⟩], (X.map Prod.fst).dropLast ++ [⟨1, here, 0, []⟩]⟩ := by
            unfold Go.Proofs.Ytmfffaocmboelaa.step
            rw [if_neg (by decide), if_neg (by rw [htx.out]; exact fun h => h.2 hb.out)]
            simp only [eff, htx.out, hy1.out]
          rw [hst]
          refine ⟨.slice A5 2 c5, .slice (some ⟨g, 0, none⟩) j c, Y, rfl, own_base hrow6.out hB2.out.size, hF6.out, hR6.out.mono (fun _ h => .inl h), hL6.out, ?_⟩
          exact (Onl.of_below (s := fun k => k = F ∨ own k ∨ w.heap.size ≤ k) hBB5.out (fun k hk _ => hk)).trans (hO6.out.grow (fun k _ hk => .inr (.inl (by rw [hk]; exact hog.out))))
set_option maxHeartbeats 2000000 in
set_option maxRecDepth 100000 in
theorem dyes_6 (s : ByteArray) (here : Int) (h : Dl w F own v X) (hs : s.size ≤ maxLen) (hr : row s = 6) (hh : -9223372036854775808 ≤ here ∧ here ≤ 9223372036854775807) (hb : (topT (X.map Prod.fst)).k = 2) :
    Calls Try.prog 15 #[.pointer (some ⟨F, 0, none⟩), .string s, .int .i64 here] w fun e w' => Ddone w w' F own (Go.Proofs.Ytmfffaocmboelaa.step (X.map Prod.fst) (row s) here) e := by
  have hrr := rrow_any s w hs
  rw [hr, if_neg (by decide), show ((6 : Nat) : Int) = 6 from rfl] at hrr
  rw [hr]
  obtain ⟨m, hm0⟩ : ∃ m, X.length = m + 1 := by
    cases hX : X.length with
    | zero => rw [List.eq_nil_of_length_eq_zero hX] at hb; exact absurd hb (by decide)
    | succ m => exact ⟨m, rfl⟩
  obtain ⟨x, hx⟩ : ∃ x, X[m]? = some x := ⟨_, List.getElem?_eq_getElem (by omega)⟩
  have htx := topT_at rfl hm0 hx
  rw [htx] at hb
  obtain ⟨g, c0, hvg, _⟩ := h.rw.form (by omega)
  have htop : ∀ W, Dl W F own v X → Calls Try.prog 25 #[.pointer (some ⟨F, 0, none⟩), .int .i64 2] W fun e w' => e = .returned (.tuple #[dagg x, .bool true]) ∧ Below W.heap.size W w' := fun W hW => by
    have := rtop_yes hW hvg rfl hm0 hx
    rw [hb] at this
    exact this
  obtain ⟨Am, cm, hxm⟩ := own_form (h.rw.more x (List.mem_of_getElem? hx))
  unfold dagg at htop
  rw [hxm] at htop
  replace htop := Lib.hid htop
  replace hb := Lib.hid hb
  replace htx := Lib.hid htx
  replace hx := Lib.hid hx
  replace hm0 := Lib.hid hm0
  replace hxm := Lib.hid hxm
  replace hvg := Lib.hid hvg
  obtain ⟨A, c, hv⟩ := own_form h.rw.row
  obtain ⟨n, hn⟩ : ∃ n, X.length = n := ⟨_, rfl⟩
  rw [hn] at hv
  have hln := h.len
  rw [hn] at hln
  have i16 : (n : Int) ≤ 16 := by omega
  subst hv
  replace hrr := Lib.hid hrr
  replace h := Lib.hid h
  replace hn := Lib.hid hn
  replace hh := Lib.hid hh
  have hvg' := hvg.out
  injection hvg' with eA en ec
  clear en ec
  subst eA
  clear hvg
  have hm1 : n = m + 1 := by rw [← hn.out]; exact hm0.out
  have e1 : IntKind.i64.wrap ((n : Int) - 1) = (m : Int) := by rw [IntKind.wrap_i64]; omega
  have m0 : (0 : Int) ≤ m := by omega
  replace hm1 := Lib.hid hm1
  go_enter Try.func15, Try.ntmps15
  go_wp2_with (fail)
  refine hrr.out.mono ?_
  rintro e w1 ⟨rfl, hb1⟩
  have hw1z := Lib.hid hb1.size
  have hB1 : Below w.heap.size w (w1.alloc (.cells #[.int .i64 0, .int .i64 0, .int .i64 0, .slice none 0 0] 70)) := hb1.alloc hb1.size _
  have hX9 := Bk.fresh w1 70 #[.int .i64 0, .int .i64 0, .int .i64 0, .slice none 0 0]
  go_wp2_with (fail)
  obtain ⟨b9, hb9⟩ : ∃ b, w1.heap.size = b := ⟨_, rfl⟩
  obtain ⟨W, hW⟩ : ∃ W, w1.alloc (.cells #[.int .i64 0, .int .i64 0, .int .i64 0, .slice none 0 0] 70) = W := ⟨_, rfl⟩
  rw [hb9, hW] at hX9
  rw [hW] at hB1 ⊢
  try rw [hb9]
  clear hW hb1
  have hD := h.out.kept hB1
  have f0 := hD.bk.cell 0
  simp at f0
  replace hD := Lib.hid hD
  replace hB1 := Lib.hid hB1
  replace hX9 := Lib.hid hX9
  replace hb9 := Lib.hid hb9
  refine (rwants_6 W).mono ?_
  rintro e w2 ⟨rfl, hw2⟩
  replace hw2 := hw2.symm
  subst hw2
  go_wp2_with (fail)
  refine (htop.out _ hD.out).mono ?_
  rintro e w3 ⟨rfl, hb3⟩
  have hX3 := (hX9.out.kept hb3 hX9.out.lt).past (.cells #[.int .i64 (x.1.k : Int), .int .i64 x.1.at_, .int .i64 x.1.tgt, .slice Am x.1.more.length cm] 70)
  have x0 := hX3.cell 0
  have x1 := hX3.cell 1
  have x2 := hX3.cell 2
  have x3 := hX3.cell 3
  have z0 := hX3.free 0
  have z1 := hX3.free 1
  have z2 := hX3.free 2
  have z3 := hX3.free 3
  simp at x0 x1 x2 x3
  replace hX3 := Lib.hid hX3
  clear f0
  go_wp2_with (fail)
  have hB4 := hB1.out.trans (((hb3.alloc hb3.size (.cells #[.int .i64 (x.1.k : Int), .int .i64 x.1.at_, .int .i64 x.1.tgt, .slice Am x.1.more.length cm] 70))).mono hB1.out.size)
  have hb9w : w.heap.size ≤ b9 := by rw [← hb9.out]; exact hw1z.out
  have hX4 := (((hX3.out.put 0 (.int .i64 (x.1.k : Int))).put 1 (.int .i64 x.1.at_)).put 2 (.int .i64 x.1.tgt)).put 3 (.slice Am x.1.more.length cm)
  have hB5 := (((hB4.setCell (p := ⟨b9, 0, none⟩) hb9w (.int .i64 (x.1.k : Int))).setCell (p := ⟨b9, 1, none⟩) hb9w (.int .i64 x.1.at_)).setCell (p := ⟨b9, 2, none⟩) hb9w (.int .i64 x.1.tgt)).setCell (p := ⟨b9, 3, none⟩) hb9w (.slice Am x.1.more.length cm)
  obtain ⟨W4, hW4⟩ : ∃ W4, (((((w3.alloc (.cells #[.int .i64 (x.1.k : Int), .int .i64 x.1.at_, .int .i64 x.1.tgt, .slice Am x.1.more.length cm] 70)).setCell ⟨b9, 0, none⟩ (.int .i64 (x.1.k : Int))).setCell ⟨b9, 1, none⟩ (.int .i64 x.1.at_)).setCell ⟨b9, 2, none⟩ (.int .i64 x.1.tgt)).setCell ⟨b9, 3, none⟩ (.slice Am x.1.more.length cm)) = W4 := ⟨_, rfl⟩
  rw [hW4] at hX4 hB5 ⊢
  simp at hX4
  clear hW4 x0 x1 x2 x3 z0 z1 z2 z3 hX3 hB4 hb3 hD hB1 hX9
  have hD := h.out.kept hB5
  have hB1 := Lib.hid hB5
  have hX9 := Lib.hid hX4
  have f0 := hD.bk.cell 0
  simp at f0
  replace hD := Lib.hid hD
  clear hB5 hX4
  go_loopw [13, 14] (fun x13 x14 wr => ∃ j : Nat, Hid (x13 = .int .i64 (lastV (X.map Prod.fst) j)) ∧ x14 = .int .i64 j ∧ j ≤ n ∧ wr = W4) (fun _ x14 _ => n - (intOf x14).toNat)
  case atStart => exact ⟨0, rfl, rfl, by omega, rfl⟩
  case round =>
    obtain ⟨j, hx13, rfl, hj, rfl⟩ := hrel
    have j0 : (0 : Int) ≤ j := by omega
    by_cases hjn : j < n
    · have hjz := hjn
      have j1 : (j : Int) < n := by omega
      obtain ⟨xj, hxj⟩ : ∃ x, X[j]? = some x := ⟨_, List.getElem?_eq_getElem (by have := hn.out; omega)⟩
      have hTd := Rwd.tp (c := c) (by have := hD.out.rw; rw [← hn.out] at this; exact this) j xj hxj
      have t0 := hTd.c0
      have hget := getD_th X j xj hxj
      replace hTd := Lib.hid hTd
      replace hxj := Lib.hid hxj
      by_cases hk : xj.1.k = 4
      · have z : ((xj.1.k : Int) == 4) = true := by simp [hk]
        have hlv := lastV_yes (X.map Prod.fst) j (by rw [hget]; exact hk)
        obtain ⟨kk, hkk⟩ : ∃ kk : Int, (xj.1.k : Int) = kk := ⟨_, rfl⟩
        rw [hkk] at z t0
        replace hkk := Lib.hid hkk
        replace hlv := Lib.hid hlv
        clear hk hget
        go_wp2_with (fail)
        exact ⟨⟨j + 1, Lib.hid (by rw [hlv.out]), rfl, by omega, (by first | trivial | rfl)⟩, by simp [intOf]; omega⟩
      · have z : ((xj.1.k : Int) == 4) = false := by simp; omega
        have hlv := lastV_no (X.map Prod.fst) j (by rw [hget]; exact hk)
        obtain ⟨kk, hkk⟩ : ∃ kk : Int, (xj.1.k : Int) = kk := ⟨_, rfl⟩
        rw [hkk] at z t0
        replace hkk := Lib.hid hkk
        replace hlv := Lib.hid hlv
        clear hk hget
        go_wp2_with (fail)
        exact ⟨⟨j + 1, Lib.hid (by rw [hlv.out]; exact hx13.out), rfl, by omega, (by first | trivial | rfl)⟩, by simp [intOf]; omega⟩
    · have e : j = n := by omega
      subst e
      have j1 : ¬ (j : Int) < j := by omega
      clear hjn
      go_wp2_with (fail)
      obtain ⟨wb, hwb⟩ : ∃ wb, wr.alloc (.cells #[.int .i64 5] 3) = wb := ⟨_, rfl⟩
      have hK8 := Bk.fresh wr 3 #[.int .i64 5]
      have hBw : Below wr.heap.size wr (wr.alloc (.cells #[.int .i64 5] 3)) := (Below.refl _ _).alloc (Nat.le_refl _) _
      rw [hwb] at hK8 hBw
      have hB2 := hB1.out.trans (hBw.mono hB1.out.size)
      have hD2 := hD.out.kept hBw
      have hX2 := hX9.out.kept hBw hX9.out.lt
      refine (rlays_6 wr).mono ?_
      rintro e w2 ⟨rfl, hw2⟩
      rw [hwb] at hw2
      replace hw2 := hw2.symm
      subst hw2
      obtain ⟨b8, hb8⟩ : ∃ b, wr.heap.size = b := ⟨_, rfl⟩
      rw [hb8] at hK8 ⊢
      obtain ⟨ol, hol⟩ : ∃ ol : List Int, [5] = ol := ⟨_, rfl⟩
      have hol0 : ol.length = 1 := by rw [← hol]; rfl
      rw [show (#[.int .i64 5] : Array Value) = (i64s [5]).toArray from rfl, hol] at hK8
      replace hK8 := Lib.hid hK8
      replace hB2 := Lib.hid hB2
      replace hD2 := Lib.hid hD2
      replace hX2 := Lib.hid hX2
      replace hol := Lib.hid hol
      replace hol0 := Lib.hid hol0
      clear hBw hwb f0 hb8
      go_wp2_with (fail)
      go_loopw [16, 18] (fun x16 x18 wi => ∃ (k : Nat) (A4 : Option Addr) (c4 : Nat), x16 = .slice A4 k c4 ∧ x18 = .int .i64 k ∧ k ≤ 1 ∧ wi.ownsRow wb.heap.size 54 4 (.slice A4 k c4) k (actC (layO here 0 (ol.take k))) ∧ Below wb.heap.size wb wi) (fun _ x18 _ => 1 - (intOf x18).toNat)
      case atStart => exact ⟨0, none, 0, rfl, rfl, by omega, World.ownsRow_nil _ _ _ _, Below.refl _ _⟩
      case round =>
        obtain ⟨k, A4, c4, rfl, rfl, hk, hrow, hBi⟩ := hrel
        by_cases hkl : k < 1
        · have hkz := hkl
          have k0 : (0 : Int) ≤ k := by omega
          have k1 : (k : Int) < 1 := by omega
          obtain ⟨o, ho⟩ : ∃ o, ol[k]? = some o := ⟨_, List.getElem?_eq_getElem (by rw [hol0.out]; exact hkl)⟩
          have c0 : wr.cell? ⟨b8, k, none⟩ = some (.int .i64 o) := by
            have hb := hK8.out.kept hBi hK8.out.lt
            rw [hb.cell k]
            simp [i64s, ho]
          have htk : ol.take (k + 1) = ol.take k ++ [o] := by
            obtain ⟨hk3, rfl⟩ := List.getElem?_eq_some_iff.1 ho
            exact List.take_succ_eq_append_getElem hk3
          have hlen : (layO here 0 (ol.take k)).length = k := by rw [layO_len, List.length_take, hol0.out]; omega
          have hsn := layO_snoc here o (ol.take k) 0
          rw [← htk, List.length_take, hol0.out, show 0 + min k 1 = k by omega] at hsn
          have e8 : IntKind.i64.wrap (8 * (k : Int)) = 8 * k := by rw [IntKind.wrap_i64]; omega
          rw [e8] at hsn
          obtain ⟨z, hz⟩ : ∃ z, IntKind.i64.wrap (here + 8 * (k : Int)) = z := ⟨_, rfl⟩
          rw [hz] at hsn
          obtain ⟨A5, c5, w5, hrun, hown, hgr⟩ := dact_append (w := wr) (base := wb.heap.size) ⟨false, z, o, 0⟩ (by rw [hlen]; exact hrow) hBi.size (by rw [hlen]; omega)
          rw [← hsn, layO_len, List.length_take, hol0.out, show min (k + 1) 1 = k + 1 by omega] at hrun hown
          have hB5 : Below wb.heap.size wb w5 := below_grown hBi hgr hBi.size (fun q hq => by have := own_ge hrow q hq; omega)
          replace hrun := Lib.hid hrun
          replace hown := Lib.hid hown
          replace hB5 := Lib.hid hB5
          replace ho := Lib.hid ho
          replace hrow := Lib.hid hrow
          replace hBi := Lib.hid hBi
          clear hgr hsn hlen htk
          go_wp2_with (at_builtin; refine wpList_append_run rfl (.tmp 103) (.tmp 113) 49 rfl (.slice A4 k c4) _ _ rfl rfl hrun.out ?_)
          exact ⟨⟨k + 1, A5, c5, rfl, rfl, by omega, hown.out, hB5.out⟩, by simp [intOf]; omega⟩
        · obtain rfl : k = 1 := by omega
          have hta : ol.take 1 = ol := List.take_of_length_le (by rw [hol0.out]; exact Nat.le_refl _)
          rw [hta] at hrow
          have hDi := hD2.out.kept hBi
          have hBB : Below w.heap.size w wr := hB2.out.trans (hBi.mono hB2.out.size)
          have hXi := hX2.out.kept hBi hX2.out.lt
          have x1 := hXi.cell 1
          have x2 := hXi.cell 2
          have x3 := hXi.cell 3
          simp at x1 x2 x3
          have f7 := hDi.bk.cell 0
          simp at f7
          have hacts : layO here 0 ol = [⟨false, here, 5, 0⟩] := by
            rw [← hol.out]
            simp only [layO, Nat.zero_add, lay_0 here hh.out]
          rw [hacts] at hrow
          have y8 : IntKind.i64.wrap (here + 8) = nxt here := rfl
          obtain ⟨Y, hR6, hL6, hO6, hog, t0, t1, t2, ⟨vv, t3⟩, u0⟩ := dput (k := 3) (a := x.1.at_) (tg := here) hDi.rw hn.out hm1.out
          have u1 := u0 (m * 4)
          have u2 := u0 (m * 4 + 1)
          have u3 := u0 (m * 4 + 2)
          have u4 := u0 (m * 4 + 3)
          have f5 := hDi.bk.cell 0
          simp at f5
          have hF6 := hO6.bk hDi.bk (fun e => hDi.out (by rw [e]; exact hog))
          have hrow6 := hO6.row hrow (fun q hq e => by have := own_ge hrow q hq; have := hD2.out.old g hog; omega)
          have m1 : (m : Int) < j := by have := hm1.out; omega
          replace hF6 := Lib.hid hF6
          replace hO6 := Lib.hid hO6
          replace hR6 := Lib.hid hR6
          replace hL6 := Lib.hid hL6
          replace hrow6 := Lib.hid hrow6
          replace hBB := Lib.hid hBB
          replace hog := Lib.hid hog
          clear hrow hBi hDi hXi hta hacts u0 x2 x3
          unfold set4 at hR6 hF6 hO6 hrow6
          go_wp2_with (fail)
          go_still_tail 11, (by kernel_rfl)
          change wpList _ _ _ _ _ wr.drew
          go_wp2_with (fail)
          go_returns
          have hst : Go.Proofs.Ytmfffaocmboelaa.step (X.map Prod.fst) 6 here = ⟨0, [⟨false, here, 5, 0⟩], (X.map Prod.fst).dropLast ++ [⟨3, x.1.at_, here, []⟩]⟩ := by
            unfold Go.Proofs.Ytmfffaocmboelaa.step
            rw [if_neg (by decide), if_neg (by rw [htx.out]; exact fun h => h.2 hb.out)]
            simp only [eff, htx.out]
          rw [hst]
          refine ⟨.slice A4 1 c4, .slice (some ⟨g, 0, none⟩) j c, Y, rfl, own_base hrow6.out hB2.out.size, hF6.out, hR6.out.draw.mono (fun _ h => .inl h), hL6.out, ?_⟩
          exact (Onl.of_below (s := fun k => k = F ∨ own k ∨ w.heap.size ≤ k) hBB.out (fun k hk _ => hk)).trans (hO6.out.draw.grow (fun k _ hk => .inr (.inl (by rw [hk]; exact hog.out))))
set_option maxHeartbeats 2000000 in
set_option maxRecDepth 100000 in
theorem dyes_7 (s : ByteArray) (here : Int) (h : Dl w F own v X) (hs : s.size ≤ maxLen) (hr : row s = 7) (hh : -9223372036854775808 ≤ here ∧ here ≤ 9223372036854775807) (hb : (topT (X.map Prod.fst)).k = 3) :
    Calls Try.prog 15 #[.pointer (some ⟨F, 0, none⟩), .string s, .int .i64 here] w fun e w' => Ddone w w' F own (Go.Proofs.Ytmfffaocmboelaa.step (X.map Prod.fst) (row s) here) e := by
  have hrr := rrow_any s w hs
  rw [hr, if_neg (by decide), show ((7 : Nat) : Int) = 7 from rfl] at hrr
  rw [hr]
  obtain ⟨m, hm0⟩ : ∃ m, X.length = m + 1 := by
    cases hX : X.length with
    | zero => rw [List.eq_nil_of_length_eq_zero hX] at hb; exact absurd hb (by decide)
    | succ m => exact ⟨m, rfl⟩
  obtain ⟨x, hx⟩ : ∃ x, X[m]? = some x := ⟨_, List.getElem?_eq_getElem (by omega)⟩
  have htx := topT_at rfl hm0 hx
  rw [htx] at hb
  obtain ⟨g, c0, hvg, _⟩ := h.rw.form (by omega)
  have htop : ∀ W, Dl W F own v X → Calls Try.prog 25 #[.pointer (some ⟨F, 0, none⟩), .int .i64 3] W fun e w' => e = .returned (.tuple #[dagg x, .bool true]) ∧ Below W.heap.size W w' := fun W hW => by
    have := rtop_yes hW hvg rfl hm0 hx
    rw [hb] at this
    exact this
  obtain ⟨Am, cm, hxm⟩ := own_form (h.rw.more x (List.mem_of_getElem? hx))
  unfold dagg at htop
  rw [hxm] at htop
  replace htop := Lib.hid htop
  replace hb := Lib.hid hb
  replace htx := Lib.hid htx
  replace hx := Lib.hid hx
  replace hm0 := Lib.hid hm0
  replace hxm := Lib.hid hxm
  replace hvg := Lib.hid hvg
  obtain ⟨A, c, hv⟩ := own_form h.rw.row
  obtain ⟨n, hn⟩ : ∃ n, X.length = n := ⟨_, rfl⟩
  rw [hn] at hv
  have hln := h.len
  rw [hn] at hln
  have i16 : (n : Int) ≤ 16 := by omega
  subst hv
  replace hrr := Lib.hid hrr
  replace h := Lib.hid h
  replace hn := Lib.hid hn
  replace hh := Lib.hid hh
  have hvg' := hvg.out
  injection hvg' with eA en ec
  clear en ec
  subst eA
  clear hvg
  have hm1 : n = m + 1 := by rw [← hn.out]; exact hm0.out
  have e1 : IntKind.i64.wrap ((n : Int) - 1) = (m : Int) := by rw [IntKind.wrap_i64]; omega
  have m0 : (0 : Int) ≤ m := by omega
  replace hm1 := Lib.hid hm1
  go_enter Try.func15, Try.ntmps15
  go_wp2_with (fail)
  refine hrr.out.mono ?_
  rintro e w1 ⟨rfl, hb1⟩
  have hw1z := Lib.hid hb1.size
  have hB1 : Below w.heap.size w (w1.alloc (.cells #[.int .i64 0, .int .i64 0, .int .i64 0, .slice none 0 0] 70)) := hb1.alloc hb1.size _
  have hX9 := Bk.fresh w1 70 #[.int .i64 0, .int .i64 0, .int .i64 0, .slice none 0 0]
  go_wp2_with (fail)
  obtain ⟨b9, hb9⟩ : ∃ b, w1.heap.size = b := ⟨_, rfl⟩
  obtain ⟨W, hW⟩ : ∃ W, w1.alloc (.cells #[.int .i64 0, .int .i64 0, .int .i64 0, .slice none 0 0] 70) = W := ⟨_, rfl⟩
  rw [hb9, hW] at hX9
  rw [hW] at hB1 ⊢
  try rw [hb9]
  clear hW hb1
  have hD := h.out.kept hB1
  have f0 := hD.bk.cell 0
  simp at f0
  replace hD := Lib.hid hD
  replace hB1 := Lib.hid hB1
  replace hX9 := Lib.hid hX9
  replace hb9 := Lib.hid hb9
  refine (rwants_7 W).mono ?_
  rintro e w2 ⟨rfl, hw2⟩
  replace hw2 := hw2.symm
  subst hw2
  go_wp2_with (fail)
  refine (htop.out _ hD.out).mono ?_
  rintro e w3 ⟨rfl, hb3⟩
  have hX3 := (hX9.out.kept hb3 hX9.out.lt).past (.cells #[.int .i64 (x.1.k : Int), .int .i64 x.1.at_, .int .i64 x.1.tgt, .slice Am x.1.more.length cm] 70)
  have x0 := hX3.cell 0
  have x1 := hX3.cell 1
  have x2 := hX3.cell 2
  have x3 := hX3.cell 3
  have z0 := hX3.free 0
  have z1 := hX3.free 1
  have z2 := hX3.free 2
  have z3 := hX3.free 3
  simp at x0 x1 x2 x3
  replace hX3 := Lib.hid hX3
  clear f0
  go_wp2_with (fail)
  have hB4 := hB1.out.trans (((hb3.alloc hb3.size (.cells #[.int .i64 (x.1.k : Int), .int .i64 x.1.at_, .int .i64 x.1.tgt, .slice Am x.1.more.length cm] 70))).mono hB1.out.size)
  have hb9w : w.heap.size ≤ b9 := by rw [← hb9.out]; exact hw1z.out
  have hX4 := (((hX3.out.put 0 (.int .i64 (x.1.k : Int))).put 1 (.int .i64 x.1.at_)).put 2 (.int .i64 x.1.tgt)).put 3 (.slice Am x.1.more.length cm)
  have hB5 := (((hB4.setCell (p := ⟨b9, 0, none⟩) hb9w (.int .i64 (x.1.k : Int))).setCell (p := ⟨b9, 1, none⟩) hb9w (.int .i64 x.1.at_)).setCell (p := ⟨b9, 2, none⟩) hb9w (.int .i64 x.1.tgt)).setCell (p := ⟨b9, 3, none⟩) hb9w (.slice Am x.1.more.length cm)
  obtain ⟨W4, hW4⟩ : ∃ W4, (((((w3.alloc (.cells #[.int .i64 (x.1.k : Int), .int .i64 x.1.at_, .int .i64 x.1.tgt, .slice Am x.1.more.length cm] 70)).setCell ⟨b9, 0, none⟩ (.int .i64 (x.1.k : Int))).setCell ⟨b9, 1, none⟩ (.int .i64 x.1.at_)).setCell ⟨b9, 2, none⟩ (.int .i64 x.1.tgt)).setCell ⟨b9, 3, none⟩ (.slice Am x.1.more.length cm)) = W4 := ⟨_, rfl⟩
  rw [hW4] at hX4 hB5 ⊢
  simp at hX4
  clear hW4 x0 x1 x2 x3 z0 z1 z2 z3 hX3 hB4 hb3 hD hB1 hX9
  have hD := h.out.kept hB5
  have hB1 := Lib.hid hB5
  have hX9 := Lib.hid hX4
  have f0 := hD.bk.cell 0
  simp at f0
  replace hD := Lib.hid hD
  clear hB5 hX4
  go_loopw [13, 14] (fun x13 x14 wr => ∃ j : Nat, Hid (x13 = .int .i64 (lastV (X.map Prod.fst) j)) ∧ x14 = .int .i64 j ∧ j ≤ n ∧ wr = W4) (fun _ x14 _ => n - (intOf x14).toNat)
  case atStart => exact ⟨0, rfl, rfl, by omega, rfl⟩
  case round =>
    obtain ⟨j, hx13, rfl, hj, rfl⟩ := hrel
    have j0 : (0 : Int) ≤ j := by omega
    by_cases hjn : j < n
    · have hjz := hjn
      have j1 : (j : Int) < n := by omega
      obtain ⟨xj, hxj⟩ : ∃ x, X[j]? = some x := ⟨_, List.getElem?_eq_getElem (by have := hn.out; omega)⟩
      have hTd := Rwd.tp (c := c) (by have := hD.out.rw; rw [← hn.out] at this; exact this) j xj hxj
      have t0 := hTd.c0
      have hget := getD_th X j xj hxj
      replace hTd := Lib.hid hTd
      replace hxj := Lib.hid hxj
      by_cases hk : xj.1.k = 4
      · have z : ((xj.1.k : Int) == 4) = true := by simp [hk]
        have hlv := lastV_yes (X.map Prod.fst) j (by rw [hget]; exact hk)
        obtain ⟨kk, hkk⟩ : ∃ kk : Int, (xj.1.k : Int) = kk := ⟨_, rfl⟩
        rw [hkk] at z t0
        replace hkk := Lib.hid hkk
        replace hlv := Lib.hid hlv
        clear hk hget
        go_wp2_with (fail)
        exact ⟨⟨j + 1, Lib.hid (by rw [hlv.out]), rfl, by omega, (by first | trivial | rfl)⟩, by simp [intOf]; omega⟩
      · have z : ((xj.1.k : Int) == 4) = false := by simp; omega
        have hlv := lastV_no (X.map Prod.fst) j (by rw [hget]; exact hk)
        obtain ⟨kk, hkk⟩ : ∃ kk : Int, (xj.1.k : Int) = kk := ⟨_, rfl⟩
        rw [hkk] at z t0
        replace hkk := Lib.hid hkk
        replace hlv := Lib.hid hlv
        clear hk hget
        go_wp2_with (fail)
        exact ⟨⟨j + 1, Lib.hid (by rw [hlv.out]; exact hx13.out), rfl, by omega, (by first | trivial | rfl)⟩, by simp [intOf]; omega⟩
    · have e : j = n := by omega
      subst e
      have j1 : ¬ (j : Int) < j := by omega
      clear hjn
      go_wp2_with (fail)
      obtain ⟨wb, hwb⟩ : ∃ wb, wr.alloc (.cells #[.int .i64 4] 3) = wb := ⟨_, rfl⟩
      have hK8 := Bk.fresh wr 3 #[.int .i64 4]
      have hBw : Below wr.heap.size wr (wr.alloc (.cells #[.int .i64 4] 3)) := (Below.refl _ _).alloc (Nat.le_refl _) _
      rw [hwb] at hK8 hBw
      have hB2 := hB1.out.trans (hBw.mono hB1.out.size)
      have hD2 := hD.out.kept hBw
      have hX2 := hX9.out.kept hBw hX9.out.lt
      refine (rlays_7 wr).mono ?_
      rintro e w2 ⟨rfl, hw2⟩
      rw [hwb] at hw2
      replace hw2 := hw2.symm
      subst hw2
      obtain ⟨b8, hb8⟩ : ∃ b, wr.heap.size = b := ⟨_, rfl⟩
      rw [hb8] at hK8 ⊢
      obtain ⟨ol, hol⟩ : ∃ ol : List Int, [4] = ol := ⟨_, rfl⟩
      have hol0 : ol.length = 1 := by rw [← hol]; rfl
      rw [show (#[.int .i64 4] : Array Value) = (i64s [4]).toArray from rfl, hol] at hK8
      replace hK8 := Lib.hid hK8
      replace hB2 := Lib.hid hB2
      replace hD2 := Lib.hid hD2
      replace hX2 := Lib.hid hX2
      replace hol := Lib.hid hol
      replace hol0 := Lib.hid hol0
      clear hBw hwb f0 hb8
      go_wp2_with (fail)
      go_loopw [16, 18] (fun x16 x18 wi => ∃ (k : Nat) (A4 : Option Addr) (c4 : Nat), x16 = .slice A4 k c4 ∧ x18 = .int .i64 k ∧ k ≤ 1 ∧ wi.ownsRow wb.heap.size 54 4 (.slice A4 k c4) k (actC (layO here 0 (ol.take k))) ∧ Below wb.heap.size wb wi) (fun _ x18 _ => 1 - (intOf x18).toNat)
      case atStart => exact ⟨0, none, 0, rfl, rfl, by omega, World.ownsRow_nil _ _ _ _, Below.refl _ _⟩
      case round =>
        obtain ⟨k, A4, c4, rfl, rfl, hk, hrow, hBi⟩ := hrel
        by_cases hkl : k < 1
        · have hkz := hkl
          have k0 : (0 : Int) ≤ k := by omega
          have k1 : (k : Int) < 1 := by omega
          obtain ⟨o, ho⟩ : ∃ o, ol[k]? = some o := ⟨_, List.getElem?_eq_getElem (by rw [hol0.out]; exact hkl)⟩
          have c0 : wr.cell? ⟨b8, k, none⟩ = some (.int .i64 o) := by
            have hb := hK8.out.kept hBi hK8.out.lt
            rw [hb.cell k]
            simp [i64s, ho]
          have htk : ol.take (k + 1) = ol.take k ++ [o] := by
            obtain ⟨hk3, rfl⟩ := List.getElem?_eq_some_iff.1 ho
            exact List.take_succ_eq_append_getElem hk3
          have hlen : (layO here 0 (ol.take k)).length = k := by rw [layO_len, List.length_take, hol0.out]; omega
          have hsn := layO_snoc here o (ol.take k) 0
          rw [← htk, List.length_take, hol0.out, show 0 + min k 1 = k by omega] at hsn
          have e8 : IntKind.i64.wrap (8 * (k : Int)) = 8 * k := by rw [IntKind.wrap_i64]; omega
          rw [e8] at hsn
          obtain ⟨z, hz⟩ : ∃ z, IntKind.i64.wrap (here + 8 * (k : Int)) = z := ⟨_, rfl⟩
          rw [hz] at hsn
          obtain ⟨A5, c5, w5, hrun, hown, hgr⟩ := dact_append (w := wr) (base := wb.heap.size) ⟨false, z, o, 0⟩ (by rw [hlen]; exact hrow) hBi.size (by rw [hlen]; omega)
          rw [← hsn, layO_len, List.length_take, hol0.out, show min (k + 1) 1 = k + 1 by omega] at hrun hown
          have hB5 : Below wb.heap.size wb w5 := below_grown hBi hgr hBi.size (fun q hq => by have := own_ge hrow q hq; omega)
          replace hrun := Lib.hid hrun
          replace hown := Lib.hid hown
          replace hB5 := Lib.hid hB5
          replace ho := Lib.hid ho
          replace hrow := Lib.hid hrow
          replace hBi := Lib.hid hBi
          clear hgr hsn hlen htk
          go_wp2_with (at_builtin; refine wpList_append_run rfl (.tmp 103) (.tmp 113) 49 rfl (.slice A4 k c4) _ _ rfl rfl hrun.out ?_)
          exact ⟨⟨k + 1, A5, c5, rfl, rfl, by omega, hown.out, hB5.out⟩, by simp [intOf]; omega⟩
        · obtain rfl : k = 1 := by omega
          have hta : ol.take 1 = ol := List.take_of_length_le (by rw [hol0.out]; exact Nat.le_refl _)
          rw [hta] at hrow
          have hDi := hD2.out.kept hBi
          have hBB : Below w.heap.size w wr := hB2.out.trans (hBi.mono hB2.out.size)
          have hXi := hX2.out.kept hBi hX2.out.lt
          have x1 := hXi.cell 1
          have x2 := hXi.cell 2
          have x3 := hXi.cell 3
          simp at x1 x2 x3
          have f7 := hDi.bk.cell 0
          simp at f7
          have hacts : layO here 0 ol = [⟨false, here, 4, 0⟩] := by
            rw [← hol.out]
            simp only [layO, Nat.zero_add, lay_0 here hh.out]
          rw [hacts] at hrow
          have y8 : IntKind.i64.wrap (here + 8) = nxt here := rfl
          obtain ⟨ga, hga⟩ : ∃ ga, A4 = some ⟨ga, 0, none⟩ := by
            rcases hrow.2 with ⟨_, h0⟩ | ⟨q, cap, cur, e, _⟩
            · cases h0
            · injection e with e1 _ _; exact ⟨q, e1⟩
          subst hga
          have s3 := hrow.cellAt 3 (by decide)
          have s4 := hrow.frozenAt 3
          have hst3 := (hrow.stored 3 (.int .i64 x.1.at_)).1
          have hgw : wb.heap.size ≤ ga := own_ge hrow ga rfl
          have hB6 : Below wb.heap.size wb (wr.setCell ⟨ga, 3, none⟩ (.int .i64 x.1.at_)) := hBi.setCell (p := ⟨ga, 3, none⟩) hgw _
          have hX6 := hXi.other (p := ⟨ga, 3, none⟩) (show b9 ≠ ga by have := hX2.out.lt; omega) (.int .i64 x.1.at_)
          have z3 : wr.cell? ⟨ga, 3, none⟩ = some (.int .i64 0) := s3
          clear s3
          have hst4 : (wr.setCell ⟨ga, 3, none⟩ (.int .i64 x.1.at_)).ownsRow wb.heap.size 54 4 (.slice (some ⟨ga, 0, none⟩) 1 c4) 1 (actC [⟨false, here, 4, x.1.at_⟩]) := hst3
          obtain ⟨w6, hw6⟩ : ∃ w6, wr.setCell ⟨ga, 3, none⟩ (.int .i64 x.1.at_) = w6 := ⟨_, rfl⟩
          rw [hw6] at hB6 hX6 hst4
          have hD6 := hD2.out.kept hB6
          have x2 := hX6.cell 2
          simp at x2
          obtain ⟨A9, c9, w5, hrun, hown, hgr⟩ := dact_append (w := w6) (base := wb.heap.size) ⟨true, x.1.tgt, 0, nxt here⟩ hst4 hB6.size (by simp)
          simp only [List.cons_append, List.nil_append, List.length_cons, List.length_nil, Nat.zero_add, Nat.reduceAdd] at hrun hown
          have hB7 : Below wb.heap.size wb w5 := below_grown hB6 hgr hB6.size (fun q hq => own_ge hst4 q hq)
          have hD7 := hD2.out.kept hB7
          have hBB7 := hB2.out.trans (hB7.mono hB2.out.size)
          have f5 := hD7.bk.cell 0
          simp at f5
          have f6 := hD7.bk.free 0
          obtain ⟨hF7, hO7, Y, hR7, hL7⟩ := dpop hD7.rw hD7.bk hn.out hm1.out hD7.out
          have hrow7 := hO7.row hown (fun q hq e => by have := own_ge hown q hq; have := hD2.out.bk.lt; omega)
          have j2 : (m : Int) ≤ c := by
            obtain ⟨g1, c1, e, _, _, hc⟩ := hD2.out.rw.form (by rw [hn.out]; have := hm1.out; omega)
            injection e with _ _ e
            have := hn.out; have := hm1.out
            omega
          have j3 : m ≤ c := by omega
          obtain ⟨y1, hy1⟩ : ∃ y, nxt here = y := ⟨_, rfl⟩
          rw [hy1] at y8
          rw [hy1] at hrun hown hrow7
          have hz6 : w6.heap.size = wr.heap.size := by rw [← hw6, size_setCell]
          rw [hz6] at hrun
          rw [← hw6] at hrun x2
          replace hrun := Lib.hid hrun
          replace hF7 := Lib.hid hF7
          replace hO7 := Lib.hid hO7
          replace hR7 := Lib.hid hR7
          replace hL7 := Lib.hid hL7
          replace hrow7 := Lib.hid hrow7
          replace hBB7 := Lib.hid hBB7
          replace hgw := Lib.hid hgw
          replace hy1 := Lib.hid hy1
          clear hgr hst3 hst4 hB6 hX6 hB7 hD7 hD6 hown hrow hBi hDi hXi hta hacts hBB x3 hw6
          go_wp2_with (at_builtin; refine wpList_append_run rfl (.tmp 227) (.tmp 232) 49 rfl (.slice (some ⟨ga, 0, none⟩) 1 c4) _ _ rfl rfl hrun.out ?_)
          go_returns
          have hst : Go.Proofs.Ytmfffaocmboelaa.step (X.map Prod.fst) 7 here = ⟨0, [⟨false, here, 4, x.1.at_⟩, ⟨true, x.1.tgt, 0, y1⟩], (X.map Prod.fst).dropLast⟩ := by
            unfold Go.Proofs.Ytmfffaocmboelaa.step
            rw [if_neg (by decide), if_neg (by rw [htx.out]; exact fun h => h.2 hb.out)]
            simp only [eff, htx.out, hy1.out]
          rw [hst]
          refine ⟨.slice A9 2 c9, .slice (some ⟨g, 0, none⟩) m c, Y, rfl, own_base hrow7.out hB2.out.size, hF7.out, hR7.out.mono (fun _ h => .inl h), hL7.out, ?_⟩
          exact (Onl.of_below (s := fun k => k = F ∨ own k ∨ w.heap.size ≤ k) hBB7.out (fun k hk _ => hk)).trans (hO7.out.grow (fun k _ hk => .inl hk))
end
end Go.Proofs.Ytmfffaocmboelaa
