import Derived.Test.YtndgcndmkfjdgaaDoorPlM
namespace Go.Proofs.YtndgcndmkfjdgaaDoor
open Go.RowKit Go.Extern.Stop Go.Stop Go.Extern
set_option linter.unusedVariables false
set_option linter.unusedSimpArgs false
/-! each, Moved, Turned -/
/-- both points of a mark -/
def both (g : Pt → Pt) (m : Mk) : Mk := (g m.1, g m.2)
def inR (m : Mk) : Prop := Sm m.1 16777216 ∧ Sm m.2 16777216
instance (z : Pt) (B : Int) : Decidable (Sm z B) := by unfold Sm; infer_instance
instance (m : Mk) : Decidable (inR m) := by unfold inR; infer_instance
theorem told_in {z : Pt} (h : Sm z 16777216) : toldV z.1 z.2 = .tuple #[cw z, .int .i64 0] := res_small z h
theorem told_out {z : Pt} (h : ¬ Sm z 16777216) : toldV z.1 z.2 = .tuple #[.complex .f64 0 0, .int .i64 8] := by
  unfold toldV
  unfold Sm at h
  rw [if_neg (by omega)]
theorem map_take_next {zs : List Mk} {j : Nat} (g : Pt → Pt) (h : j < zs.length) : (zs.take (j + 1)).map (both g) = (zs.take j).map (both g) ++ [both g (zs.getD j m0)] := by
  rw [List.take_add_one, List.map_append, List.getD_eq_getElem?_getD, List.getElem?_eq_getElem h]
  rfl
set_option maxRecDepth 100000 in
set_option maxHeartbeats 4000000 in
theorem each_moved (A : Option Addr) (xs : List Mw) (zs : List Mk) (n c bx : Nat) (g : Pt → Pt) (w : World) (hm : xs.length = n) (h : Mks w A xs) (hD : Dr xs zs)
    (hC : ∀ W, Below w.heap.size w W → ∀ (x : Wp) (z : Pt), Nm x z → Sm z 16777216 → Calls Tryd.prog 56 #[.complex .f64 x.1 x.2, .pointer (some ⟨bx, 0, none⟩)] W fun e W' => e = .returned (toldV (g z).1 (g z).2) ∧ Below W.heap.size W W') :
    Calls Tryd.prog 55 #[.slice A n c, .func (.func 56) #[] #[.pointer (some ⟨bx, 0, none⟩)]] w fun e w' =>
      if ∀ i, i < n → inR (both g (zs.getD i m0)) then ∃ A' c', e = .returned (.tuple #[.slice A' n c', .int .i64 0]) ∧ w'.ownsRow w.heap.size 65 2 (.slice A' n c') n (mwsC ((zs.map (both g)).map mkW)) ∧ Below w.heap.size w w'
      else e = .returned (.tuple #[.slice none 0 0, .int .i64 8]) ∧ Below w.heap.size w w' := by
  have hr := Lib.hid (pright_any A xs n c w hm h true ⟨fun _ => hD.rg, fun _ => rfl⟩)
  have hn4 : (n : Int) ≤ 4096 := by have := hD.2.1; omega
  have hn4' : n ≤ 4096 := by omega
  have hzl : zs.length = n := by rw [hD.1, hm]
  replace h := Lib.hid h
  replace hm := Lib.hid hm
  replace hD := Lib.hid hD
  replace hC := Lib.hid hC
  replace hzl := Lib.hid hzl
  have key : ∃ Q : Ending → World → Prop, Q = (fun e w' => if ∀ i, i < n → inR (both g (zs.getD i m0)) then ∃ A' c', e = .returned (.tuple #[.slice A' n c', .int .i64 0]) ∧ w'.ownsRow w.heap.size 65 2 (.slice A' n c') n (mwsC ((zs.map (both g)).map mkW)) ∧ Below w.heap.size w w'
      else e = .returned (.tuple #[.slice none 0 0, .int .i64 8]) ∧ Below w.heap.size w w') := ⟨_, rfl⟩
  obtain ⟨Q, hQ⟩ := key
  rw [← hQ]
  suffices hsuf : Calls Tryd.prog 55 #[.slice A n c, .func (.func 56) #[] #[.pointer (some ⟨bx, 0, none⟩)]] w fun e w' => Hid (Q e w') from hsuf.mono fun e w' h => h.out
  have hbad : ∀ (j : Nat) (w' : World), j < n → ¬ inR (both g (zs.getD j m0)) → Below w.heap.size w w' → Q (.returned (.tuple #[.slice none 0 0, .int .i64 8])) w' := fun j w' hj hno hb => by
    rw [hQ]
    simp only
    rw [if_neg (fun hall => hno (hall j hj))]
    first | exact ⟨rfl, hb⟩ | exact ⟨trivial, hb⟩
  have hgood : ∀ (A' : Option Addr) (c' : Nat) (w' : World), (∀ i, i < n → inR (both g (zs.getD i m0))) → w'.ownsRow w.heap.size 65 2 (.slice A' n c') n (mwsC ((zs.map (both g)).map mkW)) → Below w.heap.size w w' → Q (.returned (.tuple #[.slice A' n c', .int .i64 0])) w' := fun A' c' w' hall hrow hb => by
    rw [hQ]
    simp only
    rw [if_pos hall]
    exact ⟨A', c', rfl, hrow, hb⟩
  replace hbad := Lib.hid hbad
  replace hgood := Lib.hid hgood
  clear hQ
  go_enter Tryd.func55, Tryd.ntmps55
  go_wp2_with (fail)
  refine hr.out.mono ?_
  rintro e w1 ⟨rfl, hb⟩
  replace hb := Lib.hid hb
  clear hr
  go_wp2_with (fail)
  go_loopw [6, 18] (fun s x wr => ∃ (j : Nat) (A' : Option Addr) (c' : Nat), s = .slice A' j c' ∧ x = .int .i64 j ∧ j ≤ n ∧ Hid (wr.ownsRow w.heap.size 65 2 (.slice A' j c') ((zs.take j).map (both g)).length (mwsC (((zs.take j).map (both g)).map mkW)) ∧ (∀ i, i < j → inR (both g (zs.getD i m0))) ∧ Below w.heap.size w wr)) (fun _ x _ => n - (intOf x).toNat)
  case atStart => exact ⟨0, none, 0, rfl, rfl, Nat.zero_le _, Lib.hid ⟨World.ownsRow_nil _ _ _ _, fun i hi => absurd hi (Nat.not_lt_zero _), hb.out⟩⟩
  case round =>
    obtain ⟨j, A', c', rfl, rfl, hj0, hR⟩ := hrel
    obtain ⟨hrow, hall, hW⟩ := hR.out
    clear hR
    by_cases hj : j < n
    · have j0 : (j : Int) < (n : Int) := by omega
      have hjl : j < xs.length := by rw [hm.out]; exact hj
      obtain ⟨b, off, rfl, hbl, c0, c1, hL⟩ := h.out j hjl
      obtain ⟨g12, hok⟩ := hD.out.2.2 j hjl
      obtain ⟨g1, g2⟩ := g12
      have hnx := map_take_next g (show j < zs.length by rw [hzl.out]; exact hj)
      obtain ⟨⟨⟨p1, p2⟩, q1, q2⟩, hx⟩ : ∃ p, xs[j] = p := ⟨_, rfl⟩
      rw [hx] at c0 c1 g1 g2
      simp only at c0 c1
      have hbd := hbad.out j
      obtain ⟨m, hmz⟩ : ∃ m, zs.getD j m0 = m := ⟨_, rfl⟩
      rw [hmz] at g1 g2 hok hnx hbd
      replace c0 := (hW.cell (p := ⟨b, off + j * 2, none⟩) hbl).trans c0
      replace c1 := (hW.cell (p := ⟨b, off + j * 2 + 1, none⟩) hbl).trans c1
      have hW1 := hW.alloc hW.size (.cells #[.complex .f64 p1 p2, .complex .f64 q1 q2] 65)
      have k0 := Bk.fresh wr 65 #[.complex .f64 p1 p2, .complex .f64 q1 q2]
      have hrow1 := hrow.alloc (.cells #[.complex .f64 p1 p2, .complex .f64 q1 q2] 65)
      obtain ⟨X, hX⟩ : ∃ X, wr.alloc (.cells #[.complex .f64 p1 p2, .complex .f64 q1 q2] 65) = X := ⟨_, rfl⟩
      obtain ⟨t, ht⟩ : ∃ t, wr.heap.size = t := ⟨_, rfl⟩
      rw [hX, ht] at k0
      rw [hX] at hW1 hrow1
      have hc1 := Lib.hid (hC.out X hW1 (p1, p2) m.1 g1 hok.1)
      have hmz2 := Lib.hid hmz
      replace hall := Lib.hid hall
      replace hrow1 := Lib.hid hrow1
      replace hW1 := Lib.hid hW1
      replace hnx := Lib.hid hnx
      replace hbd := Lib.hid hbd
      replace k0 := Lib.hid k0
      clear hL hx hrow hW hmz
      have l0 := k0.out.cell 0
      have l1 := k0.out.cell 1
      simp at l0 l1
      by_cases h1 : Sm (g m.1) 16777216
      · rw [told_in h1] at hc1
        unfold cw at hc1
        go_wp2_with (fail)
        refine hc1.out.mono ?_
        rintro e w2 ⟨rfl, hb2⟩
        have k1 := Lib.hid (k0.out.kept hb2 k0.out.lt)
        have hW2 := hW1.out.trans (hb2.mono hW1.out.size)
        have hrow2 := Lib.hid (own_below hrow1.out hb2 (Nat.le_refl _))
        have hc2 := Lib.hid (hC.out w2 hW2 (q1, q2) m.2 g2 hok.2.1)
        replace hW2 := Lib.hid hW2
        have l1 := k1.out.cell 1
        simp at l1
        clear hX ht hc1 hb2 l0 k0 hrow1 hW1
        by_cases h2 : Sm (g m.2) 16777216
        · rw [told_in h2] at hc2
          unfold cw at hc2
          go_wp2_with (fail)
          refine hc2.out.mono ?_
          rintro e w3 ⟨rfl, hb3⟩
          have hW3 := Lib.hid (hW2.out.trans (hb3.mono hW2.out.size))
          have hrow3 := own_below hrow2.out hb3 (Nat.le_refl _)
          obtain ⟨A2, c2, w4, hrun, hown, hgr, hnew⟩ := mk_append (both g m) (V := .slice A' j c') hrow3 hW3.out.size (by rw [List.length_map, List.length_take]; omega)
          have hlen : ((zs.take j).map (both g)).length = j := by rw [List.length_map, List.length_take, hzl.out]; omega
          rw [← hnx.out] at hown
          rw [hlen] at hrun hown
          have hb4 := below_grown2 hW3.out hgr hW3.out.size (own_ge hrow3)
          have e1 : (both g m).1 = g m.1 := rfl
          have e2 : (both g m).2 = g m.2 := rfl
          rw [e1, e2] at hrun
          unfold cw at hrun
          replace hrun := Lib.hid hrun
          replace hown := Lib.hid hown
          replace hb4 := Lib.hid hb4
          clear hc2 hb3 hrow3 hgr hnew hlen e1 e2 hW2 hrow2 l1 k1
          go_wp2_with (refine wpList_append_run rfl _ _ 24 rfl _ _ _ rfl rfl hrun.out ?_)
          refine ⟨⟨j + 1, A2, c2, rfl, rfl, by omega, Lib.hid ⟨hown.out, fun i hi => ?_, hb4.out⟩⟩, by simp [intOf]; omega⟩
          rcases (by omega : i < j ∨ i = j) with h3 | rfl
          · exact hall.out i h3
          · rw [hmz2.out]; exact ⟨h1, h2⟩
        · rw [told_out h2] at hc2
          go_wp2_with (fail)
          refine hc2.out.mono ?_
          rintro e w3 ⟨rfl, hb3⟩
          have hfin := Lib.hid (hbd.out w3 hj (fun hh => h2 hh.2) (hW2.out.trans (hb3.mono hW2.out.size)))
          go_wp2_with (fail)
          go_returns
          exact hfin
      · rw [told_out h1] at hc1
        go_wp2_with (fail)
        refine hc1.out.mono ?_
        rintro e w2 ⟨rfl, hb2⟩
        have k1 := Lib.hid (k0.out.kept hb2 k0.out.lt)
        have hW2 := hW1.out.trans (hb2.mono hW1.out.size)
        have hc2 := Lib.hid (hC.out w2 hW2 (q1, q2) m.2 g2 hok.2.1)
        replace hW2 := Lib.hid hW2
        have l1 := k1.out.cell 1
        simp at l1
        clear hX ht hc1 hb2 l0 k0 hrow1 hW1
        by_cases h2 : Sm (g m.2) 16777216
        · rw [told_in h2] at hc2
          unfold cw at hc2
          go_wp2_with (fail)
          refine hc2.out.mono ?_
          rintro e w3 ⟨rfl, hb3⟩
          have hfin := Lib.hid (hbd.out w3 hj (fun hh => h1 hh.1) (hW2.out.trans (hb3.mono hW2.out.size)))
          go_wp2_with (fail)
          go_returns
          exact hfin
        · rw [told_out h2] at hc2
          go_wp2_with (fail)
          refine hc2.out.mono ?_
          rintro e w3 ⟨rfl, hb3⟩
          have hfin := Lib.hid (hbd.out w3 hj (fun hh => h1 hh.1) (hW2.out.trans (hb3.mono hW2.out.size)))
          go_wp2_with (fail)
          go_returns
          exact hfin
    · have j0 : ¬ (j : Int) < (n : Int) := by omega
      obtain rfl : j = n := by omega
      have hg := hgood.out A' c' wr (fun i hi => hall i hi)
      rw [List.take_of_length_le (by rw [hzl.out]; exact Nat.le_refl _), List.length_map, hzl.out] at hrow
      have hfin := Lib.hid (hg hrow hW)
      go_wp2_with (fail)
      go_returns
      exact hfin
set_option maxRecDepth 100000 in
set_option maxHeartbeats 4000000 in
theorem each_turned (A : Option Addr) (xs : List Mw) (zs : List Mk) (n c bx : Nat) (g : Pt → Pt) (w : World) (hm : xs.length = n) (h : Mks w A xs) (hD : Dr xs zs)
    (hC : ∀ W, Below w.heap.size w W → ∀ (x : Wp) (z : Pt), Nm x z → Sm z 16777216 → Calls Tryd.prog 58 #[.complex .f64 x.1 x.2, .pointer (some ⟨bx, 0, none⟩)] W fun e W' => e = .returned (toldV (g z).1 (g z).2) ∧ Below W.heap.size W W') :
    Calls Tryd.prog 55 #[.slice A n c, .func (.func 58) #[] #[.pointer (some ⟨bx, 0, none⟩)]] w fun e w' =>
      if ∀ i, i < n → inR (both g (zs.getD i m0)) then ∃ A' c', e = .returned (.tuple #[.slice A' n c', .int .i64 0]) ∧ w'.ownsRow w.heap.size 65 2 (.slice A' n c') n (mwsC ((zs.map (both g)).map mkW)) ∧ Below w.heap.size w w'
      else e = .returned (.tuple #[.slice none 0 0, .int .i64 8]) ∧ Below w.heap.size w w' := by
  have hr := Lib.hid (pright_any A xs n c w hm h true ⟨fun _ => hD.rg, fun _ => rfl⟩)
  have hn4 : (n : Int) ≤ 4096 := by have := hD.2.1; omega
  have hn4' : n ≤ 4096 := by omega
  have hzl : zs.length = n := by rw [hD.1, hm]
  replace h := Lib.hid h
  replace hm := Lib.hid hm
  replace hD := Lib.hid hD
  replace hC := Lib.hid hC
  replace hzl := Lib.hid hzl
  have key : ∃ Q : Ending → World → Prop, Q = (fun e w' => if ∀ i, i < n → inR (both g (zs.getD i m0)) then ∃ A' c', e = .returned (.tuple #[.slice A' n c', .int .i64 0]) ∧ w'.ownsRow w.heap.size 65 2 (.slice A' n c') n (mwsC ((zs.map (both g)).map mkW)) ∧ Below w.heap.size w w'
      else e = .returned (.tuple #[.slice none 0 0, .int .i64 8]) ∧ Below w.heap.size w w') := ⟨_, rfl⟩
  obtain ⟨Q, hQ⟩ := key
  rw [← hQ]
  suffices hsuf : Calls Tryd.prog 55 #[.slice A n c, .func (.func 58) #[] #[.pointer (some ⟨bx, 0, none⟩)]] w fun e w' => Hid (Q e w') from hsuf.mono fun e w' h => h.out
  have hbad : ∀ (j : Nat) (w' : World), j < n → ¬ inR (both g (zs.getD j m0)) → Below w.heap.size w w' → Q (.returned (.tuple #[.slice none 0 0, .int .i64 8])) w' := fun j w' hj hno hb => by
    rw [hQ]
    simp only
    rw [if_neg (fun hall => hno (hall j hj))]
    first | exact ⟨rfl, hb⟩ | exact ⟨trivial, hb⟩
  have hgood : ∀ (A' : Option Addr) (c' : Nat) (w' : World), (∀ i, i < n → inR (both g (zs.getD i m0))) → w'.ownsRow w.heap.size 65 2 (.slice A' n c') n (mwsC ((zs.map (both g)).map mkW)) → Below w.heap.size w w' → Q (.returned (.tuple #[.slice A' n c', .int .i64 0])) w' := fun A' c' w' hall hrow hb => by
    rw [hQ]
    simp only
    rw [if_pos hall]
    exact ⟨A', c', rfl, hrow, hb⟩
  replace hbad := Lib.hid hbad
  replace hgood := Lib.hid hgood
  clear hQ
  go_enter Tryd.func55, Tryd.ntmps55
  go_wp2_with (fail)
  refine hr.out.mono ?_
  rintro e w1 ⟨rfl, hb⟩
  replace hb := Lib.hid hb
  clear hr
  go_wp2_with (fail)
  go_loopw [6, 18] (fun s x wr => ∃ (j : Nat) (A' : Option Addr) (c' : Nat), s = .slice A' j c' ∧ x = .int .i64 j ∧ j ≤ n ∧ Hid (wr.ownsRow w.heap.size 65 2 (.slice A' j c') ((zs.take j).map (both g)).length (mwsC (((zs.take j).map (both g)).map mkW)) ∧ (∀ i, i < j → inR (both g (zs.getD i m0))) ∧ Below w.heap.size w wr)) (fun _ x _ => n - (intOf x).toNat)
  case atStart => exact ⟨0, none, 0, rfl, rfl, Nat.zero_le _, Lib.hid ⟨World.ownsRow_nil _ _ _ _, fun i hi => absurd hi (Nat.not_lt_zero _), hb.out⟩⟩
  case round =>
    obtain ⟨j, A', c', rfl, rfl, hj0, hR⟩ := hrel
    obtain ⟨hrow, hall, hW⟩ := hR.out
    clear hR
    by_cases hj : j < n
    · have j0 : (j : Int) < (n : Int) := by omega
      have hjl : j < xs.length := by rw [hm.out]; exact hj
      obtain ⟨b, off, rfl, hbl, c0, c1, hL⟩ := h.out j hjl
      obtain ⟨g12, hok⟩ := hD.out.2.2 j hjl
      obtain ⟨g1, g2⟩ := g12
      have hnx := map_take_next g (show j < zs.length by rw [hzl.out]; exact hj)
      obtain ⟨⟨⟨p1, p2⟩, q1, q2⟩, hx⟩ : ∃ p, xs[j] = p := ⟨_, rfl⟩
      rw [hx] at c0 c1 g1 g2
      simp only at c0 c1
      have hbd := hbad.out j
      obtain ⟨m, hmz⟩ : ∃ m, zs.getD j m0 = m := ⟨_, rfl⟩
      rw [hmz] at g1 g2 hok hnx hbd
      replace c0 := (hW.cell (p := ⟨b, off + j * 2, none⟩) hbl).trans c0
      replace c1 := (hW.cell (p := ⟨b, off + j * 2 + 1, none⟩) hbl).trans c1
      have hW1 := hW.alloc hW.size (.cells #[.complex .f64 p1 p2, .complex .f64 q1 q2] 65)
      have k0 := Bk.fresh wr 65 #[.complex .f64 p1 p2, .complex .f64 q1 q2]
      have hrow1 := hrow.alloc (.cells #[.complex .f64 p1 p2, .complex .f64 q1 q2] 65)
      obtain ⟨X, hX⟩ : ∃ X, wr.alloc (.cells #[.complex .f64 p1 p2, .complex .f64 q1 q2] 65) = X := ⟨_, rfl⟩
      obtain ⟨t, ht⟩ : ∃ t, wr.heap.size = t := ⟨_, rfl⟩
      rw [hX, ht] at k0
      rw [hX] at hW1 hrow1
      have hc1 := Lib.hid (hC.out X hW1 (p1, p2) m.1 g1 hok.1)
      have hmz2 := Lib.hid hmz
      replace hall := Lib.hid hall
      replace hrow1 := Lib.hid hrow1
      replace hW1 := Lib.hid hW1
      replace hnx := Lib.hid hnx
      replace hbd := Lib.hid hbd
      replace k0 := Lib.hid k0
      clear hL hx hrow hW hmz
      have l0 := k0.out.cell 0
      have l1 := k0.out.cell 1
      simp at l0 l1
      by_cases h1 : Sm (g m.1) 16777216
      · rw [told_in h1] at hc1
        unfold cw at hc1
        go_wp2_with (fail)
        refine hc1.out.mono ?_
        rintro e w2 ⟨rfl, hb2⟩
        have k1 := Lib.hid (k0.out.kept hb2 k0.out.lt)
        have hW2 := hW1.out.trans (hb2.mono hW1.out.size)
        have hrow2 := Lib.hid (own_below hrow1.out hb2 (Nat.le_refl _))
        have hc2 := Lib.hid (hC.out w2 hW2 (q1, q2) m.2 g2 hok.2.1)
        replace hW2 := Lib.hid hW2
        have l1 := k1.out.cell 1
        simp at l1
        clear hX ht hc1 hb2 l0 k0 hrow1 hW1
        by_cases h2 : Sm (g m.2) 16777216
        · rw [told_in h2] at hc2
          unfold cw at hc2
          go_wp2_with (fail)
          refine hc2.out.mono ?_
          rintro e w3 ⟨rfl, hb3⟩
          have hW3 := Lib.hid (hW2.out.trans (hb3.mono hW2.out.size))
          have hrow3 := own_below hrow2.out hb3 (Nat.le_refl _)
          obtain ⟨A2, c2, w4, hrun, hown, hgr, hnew⟩ := mk_append (both g m) (V := .slice A' j c') hrow3 hW3.out.size (by rw [List.length_map, List.length_take]; omega)
          have hlen : ((zs.take j).map (both g)).length = j := by rw [List.length_map, List.length_take, hzl.out]; omega
          rw [← hnx.out] at hown
          rw [hlen] at hrun hown
          have hb4 := below_grown2 hW3.out hgr hW3.out.size (own_ge hrow3)
          have e1 : (both g m).1 = g m.1 := rfl
          have e2 : (both g m).2 = g m.2 := rfl
          rw [e1, e2] at hrun
          unfold cw at hrun
          replace hrun := Lib.hid hrun
          replace hown := Lib.hid hown
          replace hb4 := Lib.hid hb4
          clear hc2 hb3 hrow3 hgr hnew hlen e1 e2 hW2 hrow2 l1 k1
          go_wp2_with (refine wpList_append_run rfl _ _ 24 rfl _ _ _ rfl rfl hrun.out ?_)
          refine ⟨⟨j + 1, A2, c2, rfl, rfl, by omega, Lib.hid ⟨hown.out, fun i hi => ?_, hb4.out⟩⟩, by simp [intOf]; omega⟩
          rcases (by omega : i < j ∨ i = j) with h3 | rfl
          · exact hall.out i h3
          · rw [hmz2.out]; exact ⟨h1, h2⟩
        · rw [told_out h2] at hc2
          go_wp2_with (fail)
          refine hc2.out.mono ?_
          rintro e w3 ⟨rfl, hb3⟩
          have hfin := Lib.hid (hbd.out w3 hj (fun hh => h2 hh.2) (hW2.out.trans (hb3.mono hW2.out.size)))
          go_wp2_with (fail)
          go_returns
          exact hfin
      · rw [told_out h1] at hc1
        go_wp2_with (fail)
        refine hc1.out.mono ?_
        rintro e w2 ⟨rfl, hb2⟩
        have k1 := Lib.hid (k0.out.kept hb2 k0.out.lt)
        have hW2 := hW1.out.trans (hb2.mono hW1.out.size)
        have hc2 := Lib.hid (hC.out w2 hW2 (q1, q2) m.2 g2 hok.2.1)
        replace hW2 := Lib.hid hW2
        have l1 := k1.out.cell 1
        simp at l1
        clear hX ht hc1 hb2 l0 k0 hrow1 hW1
        by_cases h2 : Sm (g m.2) 16777216
        · rw [told_in h2] at hc2
          unfold cw at hc2
          go_wp2_with (fail)
          refine hc2.out.mono ?_
          rintro e w3 ⟨rfl, hb3⟩
          have hfin := Lib.hid (hbd.out w3 hj (fun hh => h1 hh.1) (hW2.out.trans (hb3.mono hW2.out.size)))
          go_wp2_with (fail)
          go_returns
          exact hfin
        · rw [told_out h2] at hc2
          go_wp2_with (fail)
          refine hc2.out.mono ?_
          rintro e w3 ⟨rfl, hb3⟩
          have hfin := Lib.hid (hbd.out w3 hj (fun hh => h1 hh.1) (hW2.out.trans (hb3.mono hW2.out.size)))
          go_wp2_with (fail)
          go_returns
          exact hfin
    · have j0 : ¬ (j : Int) < (n : Int) := by omega
      obtain rfl : j = n := by omega
      have hg := hgood.out A' c' wr (fun i hi => hall i hi)
      rw [List.take_of_length_le (by rw [hzl.out]; exact Nat.le_refl _), List.length_map, hzl.out] at hrow
      have hfin := Lib.hid (hg hrow hW)
      go_wp2_with (fail)
      go_returns
      exact hfin
theorem each_bad (A : Option Addr) (xs : List Mw) (n c k bx : Nat) (w : World) (hm : xs.length = n) (h : Mks w A xs) (hno : ¬ Rg xs) :
    Calls Tryd.prog 55 #[.slice A n c, .func (.func k) #[] #[.pointer (some ⟨bx, 0, none⟩)]] w fun e w' => e = .returned (.tuple #[.slice none 0 0, .int .i64 1]) ∧ Below w.heap.size w w' := by
  have hr := Lib.hid (pright_any A xs n c w hm h false ⟨fun h => absurd h (by decide), fun h => absurd h hno⟩)
  clear h hno
  go_enter Tryd.func55, Tryd.ntmps55
  go_wp2_with (fail)
  refine hr.out.mono ?_
  rintro e w1 ⟨rfl, hb⟩
  go_wp2_with (fail)
  go_returns
  exact ⟨rfl, hb⟩
/-- the closure of Moved -/
theorem moved1 {bx b1 b2 : Nat} {d : Pt} (hd : Nm (b1, b2) d) (hs : Sm d 16777216) (W : World) (hbx : Bk W bx 43 #[.complex .f64 b1 b2]) (x : Wp) (z : Pt) (hx : Nm x z) (hz : Sm z 16777216) :
    Calls Tryd.prog 56 #[.complex .f64 x.1 x.2, .pointer (some ⟨bx, 0, none⟩)] W fun e W' => e = .returned (toldV (z.1 + d.1) (z.2 + d.2)) ∧ Below W.heap.size W W' := by
  have ha := Lib.hid (add_ok x (b1, b2) z d hx hd hz hs W)
  have c0 := hbx.cell 0
  simp at c0
  obtain ⟨v, q, hvq⟩ := toldV_form (z.1 + d.1) (z.2 + d.2)
  unfold res at ha
  simp only at ha
  rw [hvq] at ha ⊢
  obtain ⟨x1, x2⟩ := x
  simp only at ha ⊢
  clear hbx hx hz hd hs hvq
  go_enter Tryd.func56, Tryd.ntmps56
  go_wp2_with (fail)
  refine ha.out.mono ?_
  rintro e w1 ⟨rfl, hb⟩
  go_wp2_with (fail)
  go_returns
  exact ⟨rfl, hb⟩
/-- the closure of Turned -/
theorem turned1 {bx : Nat} {k : Int} (W : World) (hbx : Bk W bx 3 #[.int .i64 k]) (x : Wp) (z : Pt) (hx : Nm x z) (hz : Sm z 16777216) :
    Calls Tryd.prog 58 #[.complex .f64 x.1 x.2, .pointer (some ⟨bx, 0, none⟩)] W fun e W' => e = .returned (toldV (turnZ z k).1 (turnZ z k).2) ∧ Below W.heap.size W W' := by
  have ha := Lib.hid (turn_ok x z k hx hz W)
  have hs : Sm (turnZ z k) 16777216 := by
    unfold Sm at *
    rcases turn_form z k with ⟨_, e⟩ | ⟨_, e⟩ | ⟨_, e⟩ | ⟨_, e⟩ <;> rw [e] <;> simp only <;> omega
  rw [told_in hs]
  have c0 := hbx.cell 0
  simp at c0
  obtain ⟨x1, x2⟩ := x
  simp only at ha ⊢
  unfold cw at ha ⊢
  clear hbx hx hz hs
  go_enter Tryd.func58, Tryd.ntmps58
  go_wp2_with (fail)
  refine ha.out.mono ?_
  rintro e w1 ⟨rfl, hb⟩
  go_wp2_with (fail)
  go_returns
  exact ⟨rfl, hb⟩
/-- what Moved and Turned answer of a drawing that may be -/
def Eachd (zs : List Mk) (g : Pt → Pt) (w : World) (e : Ending) (w' : World) : Prop :=
  if ∀ i, i < zs.length → inR (both g (zs.getD i m0)) then ∃ A' c', e = .returned (.tuple #[.slice A' zs.length c', .int .i64 0]) ∧ Mks w' A' ((zs.map (both g)).map mkW) ∧ Below w.heap.size w w'
  else e = .returned (.tuple #[.slice none 0 0, .int .i64 8]) ∧ Below w.heap.size w w'
theorem mkW_lt {l : List Mk} (h : ∀ m ∈ l, inR m) : ∀ x ∈ l.map mkW, Ltw x := fun x hx => by
  obtain ⟨m, hm, rfl⟩ := List.mem_map.1 hx
  exact nk_lt (mkW_nk (h m hm))
theorem all_in {zs : List Mk} {g : Pt → Pt} (h : ∀ i, i < zs.length → inR (both g (zs.getD i m0))) : ∀ m ∈ zs.map (both g), inR m := fun m hm => by
  obtain ⟨z, hz, rfl⟩ := List.mem_map.1 hm
  obtain ⟨i, hi, rfl⟩ := List.getElem_of_mem hz
  have := h i hi
  rwa [List.getD_eq_getElem?_getD, List.getElem?_eq_getElem hi] at this
set_option maxHeartbeats 1000000 in
theorem pmoved_any (A : Option Addr) (xs : List Mw) (zs : List Mk) (n c b1 b2 : Nat) (d : Pt) (w : World) (hm : xs.length = n) (h : Mks w A xs) (hD : Dr xs zs) (hd : Nm (b1, b2) d) (hs : Sm d 16777216) :
    Calls Tryd.prog 35 #[.slice A n c, .complex .f64 b1 b2] w fun e w' => Hid (Eachd zs (fun z => (z.1 + d.1, z.2 + d.2)) w e w') := by
  have hlt := nm_lt hd
  have hr := Lib.hid (fun w => right_yes b1 b2 ((nm_rt hd).2 hs) hlt.1 hlt.2 w)
  have hzl : zs.length = n := by rw [hD.1, hm]
  have hbk := Bk.fresh w 43 #[.complex .f64 b1 b2]
  have hB := (Below.refl w.heap.size w).alloc (Nat.le_refl _) (.cells #[.complex .f64 b1 b2] 43)
  obtain ⟨X, hX⟩ : ∃ X, w.alloc (.cells #[.complex .f64 b1 b2] 43) = X := ⟨_, rfl⟩
  obtain ⟨bx, hbx⟩ : ∃ bx, w.heap.size = bx := ⟨_, rfl⟩
  rw [hX, hbx] at hbk
  rw [hX] at hB
  have c0 := hbk.cell 0
  simp at c0
  have hE := fun m => each_moved A xs zs n c bx (fun z => (z.1 + d.1, z.2 + d.2)) (X.drewN m) hm ((h.kept hB).draws m) hD (fun W hW x z hx hz => moved1 hd hs W ((hbk.draws m).kept hW hbk.lt) x z hx hz)
  have hfin : ∀ (m : Nat) (e : Ending) (w' : World), (if ∀ i, i < n → inR (both (fun z => (z.1 + d.1, z.2 + d.2)) (zs.getD i m0)) then ∃ A' c', e = .returned (.tuple #[.slice A' n c', .int .i64 0]) ∧ w'.ownsRow (X.drewN m).heap.size 65 2 (.slice A' n c') n (mwsC ((zs.map (both (fun z => (z.1 + d.1, z.2 + d.2)))).map mkW)) ∧ Below (X.drewN m).heap.size (X.drewN m) w'
      else e = .returned (.tuple #[.slice none 0 0, .int .i64 8]) ∧ Below (X.drewN m).heap.size (X.drewN m) w') → Hid (Eachd zs (fun z => (z.1 + d.1, z.2 + d.2)) w e w') ∧ ∃ v q, e = .returned (.tuple #[v, q]) := fun m e w' hh => by
    have hBm : Below w.heap.size w (X.drewN m) := below_drewN hB
    unfold Eachd
    rw [hzl]
    by_cases hall : ∀ i, i < n → inR (both (fun z => (z.1 + d.1, z.2 + d.2)) (zs.getD i m0))
    · rw [if_pos hall] at hh
      rw [if_pos hall]
      obtain ⟨A', c', he, hrow, hb⟩ := hh
      exact ⟨Lib.hid ⟨A', c', he, (own_mks hrow (mkW_lt (all_in (by rw [hzl]; exact hall)))).2, hBm.trans (hb.mono hBm.size)⟩, _, _, he⟩
    · rw [if_neg hall] at hh
      rw [if_neg hall]
      exact ⟨Lib.hid ⟨hh.1, hBm.trans (hh.2.mono hBm.size)⟩, _, _, hh.1⟩
  replace hE := Lib.hid hE
  replace hfin := Lib.hid hfin
  clear hbk hB h hD hd hs hlt
  obtain ⟨Q, hQ⟩ : ∃ Q : Ending → World → Prop, Q = Eachd zs (fun z => (z.1 + d.1, z.2 + d.2)) w := ⟨_, rfl⟩
  rw [← hQ] at hfin ⊢
  clear hQ
  go_enter Tryd.func35, Tryd.ntmps35
  go_wp2_with (fail)
  refine (hr.out _).mono ?_
  rintro e w1 ⟨rfl, m, hw_⟩
  have hw_ := hw_.symm
  subst hw_
  go_wp2_with (fail)
  refine (hE.out m).mono ?_
  intro e w2 hh
  obtain ⟨h1, v, q, rfl⟩ := hfin.out m e w2 hh
  replace h1 := Lib.hid h1
  clear hh
  go_wp2_with (fail)
  go_returns
  exact h1.out
end Go.Proofs.YtndgcndmkfjdgaaDoor
