import Derived.Test.YtmfffaocmboelaaDwE
namespace Go.Proofs.Ytmfffaocmboelaa
open Go.RowKit
set_option linter.unusedVariables false
set_option linter.unusedSimpArgs false
section
variable {w w' : World} {F : Nat} {own : Nat → Prop} {v : Value} {X : List (Th × Value)}
theorem dpop {W : World} {own' : Nat → Prop} {g n m c : Nat} {X2 : List (Th × Value)} (hR : Rwd W own' (.slice (some ⟨g, 0, none⟩) n c) X2) (hF : Bk W F 45 #[.slice (some ⟨g, 0, none⟩) n c]) (hX : X2.length = n) (hm : n = m + 1) (hFo : ¬ own' F) :
    Bk (W.setCell ⟨F, 0, none⟩ (.slice (some ⟨g, 0, none⟩) m c)) F 45 #[.slice (some ⟨g, 0, none⟩) m c] ∧ Onl (fun k => k = F) W (W.setCell ⟨F, 0, none⟩ (.slice (some ⟨g, 0, none⟩) m c)) ∧ ∃ Y, Rwd (W.setCell ⟨F, 0, none⟩ (.slice (some ⟨g, 0, none⟩) m c)) own' (.slice (some ⟨g, 0, none⟩) m c) Y ∧ Y.map Prod.fst = (X2.map Prod.fst).dropLast := by
  have hO : Onl (fun k => k = F) W (W.setCell ⟨F, 0, none⟩ (.slice (some ⟨g, 0, none⟩) m c)) := (Onl.refl (fun k => k = F) W).put (p := ⟨F, 0, none⟩) (.inl rfl) _
  have hne : X2 ≠ [] := by rintro rfl; simp at hX; omega
  obtain ⟨Y, x, rfl⟩ : ∃ Y x, X2 = Y ++ [x] := ⟨X2.dropLast, X2.getLast hne, (List.dropLast_concat_getLast hne).symm⟩
  have hY : Y.length = m := by simp at hX; omega
  subst hY
  have hn : n = (Y ++ [x]).length := hX.symm
  subst hn
  exact ⟨hF.put 0 _, hO, Y, hR.pop.frame hO (fun k hk e => by subst e; exact hFo hk), by simp⟩
set_option maxHeartbeats 2000000 in
set_option maxRecDepth 100000 in
theorem dyes_2 (s : ByteArray) (here : Int) (h : Dl w F own v X) (hs : s.size ≤ maxLen) (hr : row s = 2) (hh : -9223372036854775808 ≤ here ∧ here ≤ 9223372036854775807) (hb : (topT (X.map Prod.fst)).k = 1) :
    Calls Try.prog 15 #[.pointer (some ⟨F, 0, none⟩), .string s, .int .i64 here] w fun e w' => Ddone w w' F own (Go.Proofs.Ytmfffaocmboelaa.step (X.map Prod.fst) (row s) here) e := by
  have hrr := rrow_any s w hs
  rw [hr, if_neg (by decide), show ((2 : Nat) : Int) = 2 from rfl] at hrr
  rw [hr]
  obtain ⟨m, hm0⟩ : ∃ m, X.length = m + 1 := by
    cases hX : X.length with
    | zero => rw [List.eq_nil_of_length_eq_zero hX] at hb; exact absurd hb (by decide)
    | succ m => exact ⟨m, rfl⟩
  obtain ⟨x, hx⟩ : ∃ x, X[m]? = some x := ⟨_, List.getElem?_eq_getElem (by omega)⟩
  have htx := topT_at rfl hm0 hx
  rw [htx] at hb
  obtain ⟨g, c0, hvg, _⟩ := h.rw.form (by omega)
  have htop : ∀ W, Dl W F own v X → Calls Try.prog 25 #[.pointer (some ⟨F, 0, none⟩), .int .i64 1] W fun e w' => e = .returned (.tuple #[dagg x, .bool true]) ∧ Below W.heap.size W w' := fun W hW => by
    have := rtop_yes hW hvg rfl hm0 hx
    rw [hb] at this
    exact this
  obtain ⟨Am, cm, hxm⟩ := own_form (h.rw.more x (List.mem_of_getElem? hx))
  unfold dagg at htop
  rw [hxm] at htop
  replace htop := Lib.hid htop
  replace hb := Lib.hid hb
  replace htx := Lib.hid htx
  replace hx := Lib.hid hx
  replace hm0 := Lib.hid hm0
  replace hxm := Lib.hid hxm
  replace hvg := Lib.hid hvg
  obtain ⟨A, c, hv⟩ := own_form h.rw.row
  obtain ⟨n, hn⟩ : ∃ n, X.length = n := ⟨_, rfl⟩
  rw [hn] at hv
  have hln := h.len
  rw [hn] at hln
  have i16 : (n : Int) ≤ 16 := by omega
  subst hv
  replace hrr := Lib.hid hrr
  replace h := Lib.hid h
  replace hn := Lib.hid hn
  replace hh := Lib.hid hh
  have hvg' := hvg.out
  injection hvg' with eA en ec
  clear en ec
  subst eA
  clear hvg
  have hm1 : n = m + 1 := by rw [← hn.out]; exact hm0.out
  have e1 : IntKind.i64.wrap ((n : Int) - 1) = (m : Int) := by rw [IntKind.wrap_i64]; omega
  have m0 : (0 : Int) ≤ m := by omega
  replace hm1 := Lib.hid hm1
  go_enter Try.func15, Try.ntmps15
  go_wp2_with (fail)
  refine hrr.out.mono ?_
  rintro e w1 ⟨rfl, hb1⟩
  have hw1z := Lib.hid hb1.size
  have hB1 : Below w.heap.size w (w1.alloc (.cells #[.int .i64 0, .int .i64 0, .int .i64 0, .slice none 0 0] 70)) := hb1.alloc hb1.size _
  have hX9 := Bk.fresh w1 70 #[.int .i64 0, .int .i64 0, .int .i64 0, .slice none 0 0]
  go_wp2_with (fail)
  obtain ⟨b9, hb9⟩ : ∃ b, w1.heap.size = b := ⟨_, rfl⟩
  obtain ⟨W, hW⟩ : ∃ W, w1.alloc (.cells #[.int .i64 0, .int .i64 0, .int .i64 0, .slice none 0 0] 70) = W := ⟨_, rfl⟩
  rw [hb9, hW] at hX9
  rw [hW] at hB1 ⊢
  try rw [hb9]
  clear hW hb1
  have hD := h.out.kept hB1
  have f0 := hD.bk.cell 0
  simp at f0
  replace hD := Lib.hid hD
  replace hB1 := Lib.hid hB1
  replace hX9 := Lib.hid hX9
  replace hb9 := Lib.hid hb9
  refine (rwants_2 W).mono ?_
  rintro e w2 ⟨rfl, hw2⟩
  replace hw2 := hw2.symm
  subst hw2
  go_wp2_with (fail)
  refine (htop.out _ hD.out).mono ?_
  rintro e w3 ⟨rfl, hb3⟩
  have hX3 := (hX9.out.kept hb3 hX9.out.lt).past (.cells #[.int .i64 (x.1.k : Int), .int .i64 x.1.at_, .int .i64 x.1.tgt, .slice Am x.1.more.length cm] 70)
  have x0 := hX3.cell 0
  have x1 := hX3.cell 1
  have x2 := hX3.cell 2
  have x3 := hX3.cell 3
  have z0 := hX3.free 0
  have z1 := hX3.free 1
  have z2 := hX3.free 2
  have z3 := hX3.free 3
  simp at x0 x1 x2 x3
  replace hX3 := Lib.hid hX3
  clear f0
  go_wp2_with (fail)
  have hB4 := hB1.out.trans (((hb3.alloc hb3.size (.cells #[.int .i64 (x.1.k : Int), .int .i64 x.1.at_, .int .i64 x.1.tgt, .slice Am x.1.more.length cm] 70))).mono hB1.out.size)
  have hb9w : w.heap.size ≤ b9 := by rw [← hb9.out]; exact hw1z.out
  have hX4 := (((hX3.out.put 0 (.int .i64 (x.1.k : Int))).put 1 (.int .i64 x.1.at_)).put 2 (.int .i64 x.1.tgt)).put 3 (.slice Am x.1.more.length cm)
  have hB5 := (((hB4.setCell (p := ⟨b9, 0, none⟩) hb9w (.int .i64 (x.1.k : Int))).setCell (p := ⟨b9, 1, none⟩) hb9w (.int .i64 x.1.at_)).setCell (p := ⟨b9, 2, none⟩) hb9w (.int .i64 x.1.tgt)).setCell (p := ⟨b9, 3, none⟩) hb9w (.slice Am x.1.more.length cm)
  obtain ⟨W4, hW4⟩ : ∃ W4, (((((w3.alloc (.cells #[.int .i64 (x.1.k : Int), .int .i64 x.1.at_, .int .i64 x.1.tgt, .slice Am x.1.more.length cm] 70)).setCell ⟨b9, 0, none⟩ (.int .i64 (x.1.k : Int))).setCell ⟨b9, 1, none⟩ (.int .i64 x.1.at_)).setCell ⟨b9, 2, none⟩ (.int .i64 x.1.tgt)).setCell ⟨b9, 3, none⟩ (.slice Am x.1.more.length cm)) = W4 := ⟨_, rfl⟩
  rw [hW4] at hX4 hB5 ⊢
  simp at hX4
  clear hW4 x0 x1 x2 x3 z0 z1 z2 z3 hX3 hB4 hb3 hD hB1 hX9
  have hD := h.out.kept hB5
  have hB1 := Lib.hid hB5
  have hX9 := Lib.hid hX4
  have f0 := hD.bk.cell 0
  simp at f0
  replace hD := Lib.hid hD
  clear hB5 hX4
  go_loopw [13, 14] (fun x13 x14 wr => ∃ j : Nat, Hid (x13 = .int .i64 (lastV (X.map Prod.fst) j)) ∧ x14 = .int .i64 j ∧ j ≤ n ∧ wr = W4) (fun _ x14 _ => n - (intOf x14).toNat)
  case atStart => exact ⟨0, rfl, rfl, by omega, rfl⟩
  case round =>
    obtain ⟨j, hx13, rfl, hj, rfl⟩ := hrel
    have j0 : (0 : Int) ≤ j := by omega
    by_cases hjn : j < n
    · have hjz := hjn
      have j1 : (j : Int) < n := by omega
      obtain ⟨xj, hxj⟩ : ∃ x, X[j]? = some x := ⟨_, List.getElem?_eq_getElem (by have := hn.out; omega)⟩
      have hTd := Rwd.tp (c := c) (by have := hD.out.rw; rw [← hn.out] at this; exact this) j xj hxj
      have t0 := hTd.c0
      have hget := getD_th X j xj hxj
      replace hTd := Lib.hid hTd
      replace hxj := Lib.hid hxj
      by_cases hk : xj.1.k = 4
      · have z : ((xj.1.k : Int) == 4) = true := by simp [hk]
        have hlv := lastV_yes (X.map Prod.fst) j (by rw [hget]; exact hk)
        obtain ⟨kk, hkk⟩ : ∃ kk : Int, (xj.1.k : Int) = kk := ⟨_, rfl⟩
        rw [hkk] at z t0
        replace hkk := Lib.hid hkk
        replace hlv := Lib.hid hlv
        clear hk hget
        go_wp2_with (fail)
        exact ⟨⟨j + 1, Lib.hid (by rw [hlv.out]), rfl, by omega, (by first | trivial | rfl)⟩, by simp [intOf]; omega⟩
      · have z : ((xj.1.k : Int) == 4) = false := by simp; omega
        have hlv := lastV_no (X.map Prod.fst) j (by rw [hget]; exact hk)
        obtain ⟨kk, hkk⟩ : ∃ kk : Int, (xj.1.k : Int) = kk := ⟨_, rfl⟩
        rw [hkk] at z t0
        replace hkk := Lib.hid hkk
        replace hlv := Lib.hid hlv
        clear hk hget
        go_wp2_with (fail)
        exact ⟨⟨j + 1, Lib.hid (by rw [hlv.out]; exact hx13.out), rfl, by omega, (by first | trivial | rfl)⟩, by simp [intOf]; omega⟩
    · have e : j = n := by omega
      subst e
      have j1 : ¬ (j : Int) < j := by omega
      clear hjn
      go_wp2_with (fail)
      refine (rlays_2 wr).mono ?_
      rintro e w2 ⟨rfl, hw2⟩
      replace hw2 := hw2.symm
      subst hw2
      go_wp2_with (fail)
      go_loopw [16, 18] (fun x16 x18 wi => x16 = .slice none 0 0 ∧ x18 = .int .i64 0 ∧ wi = wr) (fun _ _ _ => 0)
      case atStart => exact ⟨rfl, rfl, rfl⟩
      case round =>
        obtain ⟨rfl, rfl, hwi⟩ := hrel
        subst hwi
        have x1 := hX9.out.cell 1
        simp at x1
        obtain ⟨A5, c5, w5, hrun, hown, hgr⟩ := dact_append (w := wr) (base := wr.heap.size) (l := []) ⟨true, x.1.at_, 0, here⟩ (World.ownsRow_nil _ _ _ _) (Nat.le_refl _) (by simp)
        simp only [List.nil_append, List.length_cons, List.length_nil, Nat.zero_add] at hrun hown
        have hB5 : Below wr.heap.size wr w5 := below_grown (Below.refl _ _) hgr (Nat.le_refl _) (fun q hq => by simp [Value.ownBlock] at hq)
        have hD5 := hD.out.kept hB5
        have f5 := hD5.bk.cell 0
        simp at f5
        have f6 := hD5.bk.free 0
        obtain ⟨hF6, hO6, Y, hR6, hL6⟩ := dpop hD5.rw hD5.bk hn.out hm1.out hD5.out
        have hrow6 := hO6.row hown (fun q hq e => by have := own_ge hown q hq; have := hD.out.bk.lt; omega)
        have hBB := hB1.out.trans (hB5.mono hB1.out.size)
        have j2 : (m : Int) ≤ c := by
          obtain ⟨g1, c1, e, _, _, hc⟩ := hD5.rw.form (by rw [hn.out]; have := hm1.out; omega)
          injection e with _ _ e
          have := hn.out; have := hm1.out
          omega
        have j3 : m ≤ c := by omega
        replace hrun := Lib.hid hrun
        replace hF6 := Lib.hid hF6
        replace hO6 := Lib.hid hO6
        replace hR6 := Lib.hid hR6
        replace hL6 := Lib.hid hL6
        replace hrow6 := Lib.hid hrow6
        replace hBB := Lib.hid hBB
        clear hgr hB5 hD5 hown
        go_wp2_with (at_builtin; refine wpList_append_run rfl (.tmp 159) (.tmp 164) 49 rfl (.slice none 0 0) _ _ rfl rfl hrun.out ?_)
        go_returns
        have hst : Go.Proofs.Ytmfffaocmboelaa.step (X.map Prod.fst) 2 here = ⟨0, [⟨true, x.1.at_, 0, here⟩], (X.map Prod.fst).dropLast⟩ := by
          unfold Go.Proofs.Ytmfffaocmboelaa.step
          rw [if_neg (by decide), if_neg (by rw [htx.out]; exact fun h => h.2 hb.out)]
          simp only [eff, htx.out]
        rw [hst]
        refine ⟨.slice A5 1 c5, .slice (some ⟨g, 0, none⟩) m c, Y, rfl, own_base hrow6.out hB1.out.size, hF6.out, hR6.out.mono (fun _ h => .inl h), hL6.out, ?_⟩
        exact (Onl.of_below (s := fun k => k = F ∨ own k ∨ w.heap.size ≤ k) hBB.out (fun k hk _ => hk)).trans (hO6.out.grow (fun k _ hk => .inl hk))
end
end Go.Proofs.Ytmfffaocmboelaa
