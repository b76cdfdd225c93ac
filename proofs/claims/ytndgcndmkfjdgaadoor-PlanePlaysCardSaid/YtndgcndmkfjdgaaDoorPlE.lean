import Derived.Test.YtndgcndmkfjdgaaDoorPlD
namespace Go.Proofs.YtndgcndmkfjdgaaDoor
open Go.RowKit Go.Extern.Stop Go.Stop Go.Extern
set_option linter.unusedVariables false
set_option linter.unusedSimpArgs false
/-! the document's Closed, Area -/
theorem area_le' (zs : List Mk) : ∀ j, (∀ i, i < j → Sm (zs.getD i m0).1 16777216 ∧ Sm (zs.getD i m0).2 16777216) → -(j * 562949953421312 : Int) ≤ areaN zs j ∧ areaN zs j ≤ (j : Int) * 562949953421312
  | 0, _ => by simp [areaN]
  | j + 1, h => by
    have ih := area_le' zs j (fun i hi => h i (by omega))
    obtain ⟨g1, g2⟩ := h j (by omega)
    unfold Sm at g1 g2
    have a1 := prod_small (a := (zs.getD j m0).1.1) (b := (zs.getD j m0).2.2) ⟨g1.1, g1.2.1⟩ ⟨g2.2.2.1, g2.2.2.2⟩
    have a2 := prod_small (a := (zs.getD j m0).2.1) (b := (zs.getD j m0).1.2) ⟨g2.1, g2.2.1⟩ ⟨g1.2.2.1, g1.2.2.2⟩
    unfold areaN
    omega
theorem run_eqZ (a b c d : Int) (w : World) : (Op.equal 58 (.agg #[.int .i64 a, .int .i64 b]) (.agg #[.int .i64 c, .int .i64 d])).run Tryd.prog w = .ok ((a == c) && (b == d)) w := by
  unfold Op.equal Op.maxDepth
  have hd : (10000 : Nat) = 9998 + 1 + 1 := rfl
  rw [hd, run_equalIn_struct _ _ _ _ _ (by kernel_rfl) (by kernel_rfl)]
  by_cases h1 : a = c <;> by_cases h2 : b = d <;> simp [Op.eqFields, go_sem, Program.fieldsOf, h1, h2]
theorem neqZ (a b c d : Int) (w : World) : (binOp .neq 58 (.agg #[.int .i64 a, .int .i64 b]) (.agg #[.int .i64 c, .int .i64 d])).run Tryd.prog w = .ok (.bool (!((a == c) && (b == d)))) w := by
  by_cases h1 : a = c <;> by_cases h2 : b = d <;> simp [go_sem, h1, h2]
set_option maxRecDepth 100000 in
set_option maxHeartbeats 1000000 in
theorem rclosed_any (A : Option Addr) (zs : List Mk) (n c : Nat) (w : World) (hm : zs.length = n) (h : Rks w A zs) (hS : Sms zs) (r : Bool) (hr : r = true ↔ rightZ zs ∧ closedZ zs) : Calls Tryd.prog 13 #[.slice A n c] w fun e w' => e = .returned (.bool r) ∧ Below w.heap.size w w' := by
  by_cases hR : rightZ zs
  · have hq := Lib.hid (rright_any A zs n c w hm h hS true ⟨fun _ => hR, fun _ => rfl⟩)
    have hn4 : n ≤ 4096 := by rw [← hm]; exact hR.1
    by_cases h0 : n = 0
    · subst h0
      obtain rfl : r = false := by
        cases r
        · rfl
        · have := (hr.1 rfl).2.1; omega
      clear hr h hS hR hn4
      go_enter Tryd.func13, Tryd.ntmps13
      go_wp2_with (fail)
      refine hq.out.mono ?_
      rintro e w1 ⟨rfl, hb⟩
      go_wp2_with (fail)
      go_returns
      exact ⟨rfl, hb⟩
    · have h1 : ((n : Int) == 0) = false := by simp; omega
      have h2 : ¬ (n : Int) = 0 := by omega
      have hn4 : (n : Int) ≤ 4096 := by omega
      have hn0 : (0 : Int) < n := by omega
      obtain ⟨m, rfl⟩ : ∃ m, n = m + 1 := ⟨n - 1, by omega⟩
      have hr2 : r = true ↔ ∀ i, i < m + 1 → (if i = 0 then (zs.getD m m0).2 else (zs.getD (i - 1) m0).2) = (zs.getD i m0).1 := by
        rw [hr]
        have key : ∀ i, i < m + 1 → ((zs.getD ((i + zs.length - 1) % zs.length) m0).2 = if i = 0 then (zs.getD m m0).2 else (zs.getD (i - 1) m0).2) := fun i hi => by
          rw [hm]
          split
          · next g => subst g; rw [show 0 + (m + 1) - 1 = m by omega, Nat.mod_eq_of_lt (by omega)]
          · next g => rw [show i + (m + 1) - 1 = (i - 1) + (m + 1) by omega, Nat.add_mod_right, Nat.mod_eq_of_lt (by omega)]
        constructor
        · rintro ⟨_, _, g⟩ i hi
          rw [← key i hi]; exact g i (by rw [hm]; exact hi)
        · intro g
          refine ⟨hR, by rw [hm]; omega, fun i hi => ?_⟩
          rw [hm] at hi
          rw [key i hi]; exact g i hi
      clear hr hR hS
      replace h := Lib.hid h
      replace hr2 := Lib.hid hr2
      replace hm := Lib.hid hm
      have e0 : IntKind.i64.wrap (((m + 1 : Nat) : Int) - 1) = (m : Int) := by rw [IntKind.wrap_i64]; omega
      go_enter Tryd.func13, Tryd.ntmps13
      go_wp2_with (fail)
      refine hq.out.mono ?_
      rintro e w1 ⟨rfl, hb⟩
      obtain ⟨b, off, rfl, hbl, ⟨c0, c1⟩, c2, c3⟩ := h.out m (by rw [hm.out]; omega)
      replace c2 := (hb.cell (p := ⟨b, off + m * 4 + 2, none⟩) hbl).trans c2
      replace c3 := (hb.cell (p := ⟨b, off + m * 4 + 3, none⟩) hbl).trans c3
      replace hb := Lib.hid hb
      clear c0 c1
      obtain ⟨⟨⟨p1, p2⟩, q1, q2⟩, hx⟩ : ∃ p, zs.getD m m0 = p := ⟨_, rfl⟩
      rw [hx] at c2 c3 hr2
      simp only at c2 c3 hr2
      go_wp2_with (fail)
      have k0 := Bk.fresh w1 58 #[.int .i64 q1, .int .i64 q2]
      have hB := hb.out.alloc hb.out.size (.cells #[.int .i64 q1, .int .i64 q2] 58)
      have hbw := hb.out.size
      obtain ⟨X, hX⟩ : ∃ X, w1.alloc (.cells #[.int .i64 q1, .int .i64 q2] 58) = X := ⟨_, rfl⟩
      obtain ⟨g, hg⟩ : ∃ g, w1.heap.size = g := ⟨_, rfl⟩
      rw [hg] at hbw
      rw [hX, hg] at k0 ⊢
      rw [hX] at hB
      clear c2 c3 hX hg hb
      go_loopw [5] (fun x wr => ∃ j : Nat, x = .int .i64 j ∧ j ≤ m + 1 ∧ Hid (∃ t : Pt, Bk wr g 58 #[.int .i64 t.1, .int .i64 t.2] ∧ t = (if j = 0 then (q1, q2) else (zs.getD (j - 1) m0).2) ∧ (∀ i, i < j → (if i = 0 then (q1, q2) else (zs.getD (i - 1) m0).2) = (zs.getD i m0).1) ∧ Below w.heap.size w wr)) (fun x _ => m + 1 - (intOf x).toNat)
      case atStart => exact ⟨0, rfl, Nat.zero_le _, Lib.hid ⟨(q1, q2), k0, rfl, fun i h => absurd h (Nat.not_lt_zero _), hB⟩⟩
      case round =>
        obtain ⟨j, rfl, hj0, hQ⟩ := hrel
        obtain ⟨⟨t1, t2⟩, kt, ht, hA, hW⟩ := hQ.out
        clear hQ
        replace hA := Lib.hid hA
        replace hW := Lib.hid hW
        by_cases hj : j < m + 1
        · have j0 : (j : Int) < ((m + 1 : Nat) : Int) := by omega
          obtain ⟨b', off', eb, _, ⟨d0, d1⟩, d2, d3⟩ := h.out j (by rw [hm.out]; exact hj)
          injection eb with eb
          injection eb with e1 e2
          subst e1 e2
          obtain ⟨⟨⟨a1, a2⟩, b1, b2⟩, hy⟩ : ∃ p, zs.getD j m0 = p := ⟨_, rfl⟩
          rw [hy] at d0 d1 d2 d3
          simp only at d0 d1 d2 d3
          replace d0 := (hW.out.cell (p := ⟨b, off + j * 4, none⟩) hbl).trans d0
          replace d1 := (hW.out.cell (p := ⟨b, off + j * 4 + 1, none⟩) hbl).trans d1
          replace d2 := (hW.out.cell (p := ⟨b, off + j * 4 + 2, none⟩) hbl).trans d2
          replace d3 := (hW.out.cell (p := ⟨b, off + j * 4 + 3, none⟩) hbl).trans d3
          replace hy := Lib.hid hy
          replace ht := Lib.hid ht
          have k1 := kt.cell 0
          have k2 := kt.cell 1
          have k3 := kt.free 0
          have k4 := kt.free 1
          simp at k1 k2
          have nz := fun w => neqZ a1 a2 t1 t2 w
          obtain ⟨v, hv⟩ : ∃ v, (!((a1 == t1) && (a2 == t2))) = v := ⟨_, rfl⟩
          rw [hv] at nz
          replace kt := Lib.hid kt
          cases v
          · go_wp2_with (fail)
            go_quiet (fail)
            go_wp2_with (fail)
            have et : (t1, t2) = (a1, a2) := by
              simp at hv
              rw [hv.1, hv.2]
            refine ⟨⟨_, _, _, _, _, _, _, _, _, _, _, _, _, _, _, _, _, _, _, _, ⟨j + 1, rfl, by omega, Lib.hid ⟨(b1, b2), ((kt.out.draws nq).put 0 _).put 1 _, ?_, fun i hi => ?_, ((below_drewN hW.out).setCell (p := ⟨g, 0, none⟩) hbw _).setCell (p := ⟨g, 1, none⟩) hbw _⟩⟩, rfl⟩, by simp [intOf]; omega⟩
            · rw [if_neg (by omega), Nat.add_sub_cancel, hy.out]
            · rcases (by omega : i < j ∨ i = j) with h3 | rfl
              · exact hA.out i h3
              · rw [← ht.out, hy.out]; exact et
          · go_wp2_with (fail)
            go_quiet (fail)
            go_wp2_with (fail)
            go_returns
            refine ⟨?_, below_drewN hW.out⟩
            obtain rfl : r = false := by
              cases r
              · rfl
              · have := hr2.out.1 rfl j hj
                rw [← ht.out, hy.out] at this
                injection this with g1 g2
                subst g1 g2
                simp at hv
            rfl
        · have j0 : ¬ (j : Int) < ((m + 1 : Nat) : Int) := by omega
          obtain rfl : j = m + 1 := by omega
          obtain rfl : r = true := hr2.out.2 (fun i hi => hA.out i hi)
          go_wp2_with (fail)
          go_returns
          exact ⟨rfl, hW.out⟩
  · have hq := Lib.hid (rright_any A zs n c w hm h hS false ⟨fun h => absurd h (by decide), fun h => absurd h hR⟩)
    obtain rfl : r = false := by
      cases r
      · rfl
      · exact absurd (hr.1 rfl).1 hR
    clear hr h hS hR
    go_enter Tryd.func13, Tryd.ntmps13
    go_wp2_with (fail)
    refine hq.out.mono ?_
    rintro e w1 ⟨rfl, hb⟩
    go_wp2_with (fail)
    go_returns
    exact ⟨rfl, hb⟩
set_option maxRecDepth 100000 in
set_option maxHeartbeats 1000000 in
theorem rarea_any (A : Option Addr) (zs : List Mk) (n c : Nat) (w : World) (hm : zs.length = n) (hn4 : n ≤ 4096) (h : Rks w A zs) (hS : Sms zs) : Calls Tryd.prog 16 #[.slice A n c] w fun e w' => e = .returned (.int .i64 (areaZ zs)) ∧ Below w.heap.size w w' := by
  have hz : areaZ zs = areaN zs n := by unfold areaZ; rw [hm]
  rw [hz]
  clear hz
  have key := Lib.hid (fun j (hj : j ≤ n) => area_le' zs j (fun i hi => hS i (by omega)))
  replace h := Lib.hid h
  replace hm := Lib.hid hm
  replace hS := Lib.hid hS
  have hn4 : (n : Int) ≤ 4096 := by omega
  obtain ⟨T, hT⟩ : ∃ T, areaN zs n = T := ⟨_, rfl⟩
  rw [hT]
  replace hT := Lib.hid hT
  go_enter Tryd.func16, Tryd.ntmps16
  go_wp2_with (fail)
  go_loopw [3, 4] (fun s x wr => ∃ (j : Nat) (a : Int), s = .int .i64 a ∧ x = .int .i64 j ∧ j ≤ n ∧ Hid (areaN zs j = a ∧ ∃ q, wr = w.drewN q)) (fun _ x _ => n - (intOf x).toNat)
  case atStart => exact ⟨0, 0, rfl, rfl, Nat.zero_le _, Lib.hid ⟨rfl, 0, rfl⟩⟩
  case round =>
    obtain ⟨j, a, rfl, rfl, hj0, hQ⟩ := hrel
    by_cases hj : j < n
    · have j0 : (j : Int) < (n : Int) := by omega
      obtain ⟨b, off, rfl, hbl, ⟨c0, c1⟩, c2, c3⟩ := h.out j (by rw [hm.out]; exact hj)
      have hok := hS.out j (by rw [hm.out]; exact hj)
      have ha := key.out j (by omega)
      rw [hQ.out.1] at ha
      have hnext : areaN zs (j + 1) = a + ((zs.getD j m0).1.1 * (zs.getD j m0).2.2 - (zs.getD j m0).2.1 * (zs.getD j m0).1.2) := by rw [← hQ.out.1]; rfl
      obtain ⟨⟨⟨a1, a2⟩, b1, b2⟩, hzz⟩ : ∃ z, zs.getD j m0 = z := ⟨_, rfl⟩
      rw [hzz] at hok c0 c1 c2 c3 hnext
      simp only at c0 c1 c2 c3 hnext
      obtain ⟨hA, q, hq⟩ := hQ.out
      have hB : Below w.heap.size w wr := by rw [hq]; exact below_drewN (Below.refl _ _)
      replace c0 := (hB.cell (p := ⟨b, off + j * 4, none⟩) hbl).trans c0
      replace c1 := (hB.cell (p := ⟨b, off + j * 4 + 1, none⟩) hbl).trans c1
      replace c2 := (hB.cell (p := ⟨b, off + j * 4 + 2, none⟩) hbl).trans c2
      replace c3 := (hB.cell (p := ⟨b, off + j * 4 + 3, none⟩) hbl).trans c3
      unfold Sm at hok
      simp only at hok
      have o1 := prod_small (a := a1) (b := b2) ⟨hok.1.1, hok.1.2.1⟩ ⟨hok.2.2.2.1, hok.2.2.2.2⟩
      have o2 := prod_small (a := b1) (b := a2) ⟨hok.2.1, hok.2.2.1⟩ ⟨hok.1.2.2.1, hok.1.2.2.2⟩
      obtain ⟨u1, hu1⟩ : ∃ u, a1 * b2 = u := ⟨_, rfl⟩
      obtain ⟨u2, hu2⟩ : ∃ u, b1 * a2 = u := ⟨_, rfl⟩
      rw [hu1] at o1 hnext
      rw [hu2] at o2 hnext
      have hb2 : -(4096 * 562949953421312 : Int) ≤ a ∧ a ≤ 4096 * 562949953421312 := by omega
      have y1 : IntKind.i64.wrap u1 = u1 := by rw [IntKind.wrap_i64]; omega
      have y2 : IntKind.i64.wrap u2 = u2 := by rw [IntKind.wrap_i64]; omega
      obtain ⟨v1, hv1⟩ : ∃ v, a + u1 = v := ⟨_, rfl⟩
      have y3 : IntKind.i64.wrap (a + u1) = v1 := by rw [IntKind.wrap_i64]; omega
      obtain ⟨v2, hv2⟩ : ∃ v, v1 - u2 = v := ⟨_, rfl⟩
      have y4 : IntKind.i64.wrap (v1 - u2) = v2 := by rw [IntKind.wrap_i64]; omega
      have hnx : areaN zs (j + 1) = v2 := by rw [hnext]; omega
      replace hnx := Lib.hid hnx
      replace hq := Lib.hid (⟨_, hq⟩ : ∃ q, wr = w.drewN q)
      clear ha hok hbl hzz hA hB hv1 hv2 hnext o1 o2 hb2 hQ
      go_wp2_with (fail)
      go_quiet (fail)
      go_wp2_with (fail)
      exact ⟨⟨j + 1, _, rfl, rfl, by omega, Lib.hid ⟨hnx.out, by obtain ⟨q', hq'⟩ := hq.out; exact ⟨q' + nq, by rw [hq', World.drewN_drewN]⟩⟩⟩, by simp [intOf]; omega⟩
    · have j0 : ¬ (j : Int) < (n : Int) := by omega
      obtain rfl : j = n := by omega
      obtain rfl : a = T := by rw [← hQ.out.1, hT.out]
      go_wp2_with (fail)
      go_returns
      obtain ⟨q, hq⟩ := hQ.out.2
      exact ⟨rfl, by rw [hq]; exact below_drewN (Below.refl _ _)⟩
end Go.Proofs.YtndgcndmkfjdgaaDoor
