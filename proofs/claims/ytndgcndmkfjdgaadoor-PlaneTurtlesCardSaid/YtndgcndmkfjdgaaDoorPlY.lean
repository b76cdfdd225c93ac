import Derived.Test.YtndgcndmkfjdgaaDoorPlX
namespace Go.Proofs.YtndgcndmkfjdgaaDoor
open Go.RowKit Go.Extern.Stop Go.Stop Go.Extern
set_option linter.unusedVariables false
set_option linter.unusedSimpArgs false
/-! the document's Same -/
theorem rks_at {W : World} {b o : Nat} {zs : List Mk} (h : Rks W (some ⟨b, o, none⟩) zs) {j : Nat} (hj : j < zs.length) : b < W.heap.size ∧ (W.cell? ⟨b, o + j * 4, none⟩ = some (.int .i64 (zs.getD j m0).1.1) ∧ W.cell? ⟨b, o + j * 4 + 1, none⟩ = some (.int .i64 (zs.getD j m0).1.2)) ∧ W.cell? ⟨b, o + j * 4 + 2, none⟩ = some (.int .i64 (zs.getD j m0).2.1) ∧ W.cell? ⟨b, o + j * 4 + 3, none⟩ = some (.int .i64 (zs.getD j m0).2.2) := by
  obtain ⟨b', o', e, h1, h2⟩ := h j hj
  cases e
  exact ⟨h1, h2⟩
theorem rks_form {W : World} {A : Option Addr} {zs : List Mk} (h : Rks W A zs) (h0 : 0 < zs.length) : ∃ b o, A = some ⟨b, o, none⟩ := by
  obtain ⟨b', o', e, h1, h2⟩ := h 0 h0
  exact ⟨b', o', e⟩
set_option maxRecDepth 100000 in
set_option maxHeartbeats 8000000 in
theorem rsame_ok (A1 A2 : Option Addr) (zs vs : List Mk) (n c1 c2 : Nat) (w : World) (hz : zs.length = n) (hv : vs.length = n) (h1 : Rks w A1 zs) (h2 : Rks w A2 vs) (hR : rightZ zs) (hR' : rightZ vs) (s1 : Sms zs) (s2 : Sms vs) (r : Bool) (hr : r = true ↔ (n = 0 ∨ ∃ k : Nat, k < 4 ∧ fitsN zs vs k)) :
    Calls Tryd.prog 40 #[.slice A1 n c1, .slice A2 n c2] w fun e w' => e = .returned (.bool r) ∧ Below w.heap.size w w' := by
  have hn : n ≤ 4096 := by rw [← hz]; exact hR.1
  have hn4 : (n : Int) ≤ 4096 := by omega
  have hI : ∀ m ∈ zs, inR m := fun m hm => by
    obtain ⟨i, hi, rfl⟩ := List.getElem_of_mem hm
    have := s1 i hi
    rwa [List.getD_eq_getElem?_getD, List.getElem?_eq_getElem hi] at this
  have hp1 := Lib.hid (rright_any A1 zs n c1 w hz h1 s1 true ⟨fun _ => hR, fun _ => rfl⟩)
  have hp2 := Lib.hid (fun W (hb : Below w.heap.size w W) => rright_any A2 vs n c2 W hv (h2.kept hb) s2 true ⟨fun _ => hR', fun _ => rfl⟩)
  have htn := Lib.hid (fun (j : Nat) W (hb : Below w.heap.size w W) => rturned_any A1 zs n c1 j W hz hn (h1.kept hb) hI)
  replace h2 := Lib.hid h2
  replace hz := Lib.hid hz
  replace hv := Lib.hid hv
  replace hr := Lib.hid hr
  replace s1 := Lib.hid s1
  replace s2 := Lib.hid s2
  replace hn := Lib.hid hn
  clear h1 hR hR' hI
  go_enter Tryd.func40, Tryd.ntmps40
  go_wp2_with (fail)
  refine hp1.out.mono ?_
  rintro e w3 ⟨rfl, hb3⟩
  replace hb3 := Lib.hid hb3
  clear hp1
  go_wp2_with (fail)
  refine (hp2.out _ hb3.out).mono ?_
  rintro e w4 ⟨rfl, hb4⟩
  have hW0 : Hid (Below w.heap.size w w4) := Lib.hid (hb3.out.trans (hb4.mono hb3.out.size))
  clear hp2 hb3 hb4
  by_cases hn0 : n = 0
  · have hrt : r = true := hr.out.2 (.inl hn0)
    subst hrt
    have n0 : (n : Int) = 0 := by omega
    replace hn0 := Lib.hid hn0
    clear hr htn h2
    go_wp2_with (fail)
    go_returns
    exact ⟨rfl, hW0.out⟩
  · have n0 : ¬ (n : Int) = 0 := by omega
    have np : 0 < n := by omega
    obtain ⟨b', o', rfl⟩ := rks_form h2.out (by rw [hv.out]; exact np)
    go_wp2_with (fail)
    go_loopw [7] (fun x wr => ∃ j : Nat, x = .int .i64 j ∧ j ≤ 4 ∧ Hid ((∀ i, i < j → ¬ fitsN zs vs i) ∧ Below w.heap.size w wr)) (fun x _ => 4 - (intOf x).toNat)
    case atStart => exact ⟨0, rfl, by decide, Lib.hid ⟨fun i h => absurd h (Nat.not_lt_zero _), hW0.out⟩⟩
    case round =>
      obtain ⟨j, rfl, hj0, hQ⟩ := hrel
      by_cases hj : j < 4
      · have j0 : (j : Int) < 4 := by omega
        go_wp2_with (fail)
        refine (htn.out j _ hQ.out.2).mono ?_
        rintro e w5 ⟨A5, c5, rfl, hM5, hb5⟩
        have hW := Lib.hid (hQ.out.2.trans (hb5.mono hQ.out.2.size))
        obtain ⟨ts, hts⟩ : ∃ ts, zs.map (both (fun z => turnZ z j)) = ts := ⟨_, rfl⟩
        rw [hts] at hM5
        have htl : ts.length = n := by rw [← hts, List.length_map, hz.out]
        have hti : ∀ i, i < n → inR (ts.getD i m0) := fun i hi => by
          rw [← hts, map_getD (by rw [hz.out]; exact hi)]
          exact turned_in (j : Int) (fun i hi => s1.out i hi) i (by rw [hz.out]; exact hi)
        have hfn : fitsN zs vs j ↔ ∀ i, i < n → fitsZ ((vs.getD 0 m0).1.1 - (ts.getD 0 m0).1.1, (vs.getD 0 m0).1.2 - (ts.getD 0 m0).1.2) (ts.getD i m0) (vs.getD i m0) := by
          unfold fitsN
          rw [hz.out, ← hts, map_getD (i := 0) (by rw [hz.out]; exact np)]
          constructor
          · intro hh i hi
            rw [map_getD (by rw [hz.out]; exact hi)]
            exact hh i hi
          · intro hh i hi
            have := hh i hi
            rw [map_getD (by rw [hz.out]; exact hi)] at this
            exact this
        obtain ⟨tb, tq, rfl⟩ := rks_form hM5 (by rw [htl]; exact np)
        have hM2 : Rks w5 (some ⟨b', o', none⟩) vs := h2.out.kept hW.out
        have hcT : ∀ W, Below w5.heap.size w5 W → ∀ i, i < n → (W.cell? ⟨tb, tq + i * 4, none⟩ = some (.int .i64 (ts.getD i m0).1.1) ∧ W.cell? ⟨tb, tq + i * 4 + 1, none⟩ = some (.int .i64 (ts.getD i m0).1.2)) ∧ W.cell? ⟨tb, tq + i * 4 + 2, none⟩ = some (.int .i64 (ts.getD i m0).2.1) ∧ W.cell? ⟨tb, tq + i * 4 + 3, none⟩ = some (.int .i64 (ts.getD i m0).2.2) := fun W hb i hi =>
          (rks_cells hb (rks_at hM5 (by rw [htl]; exact hi)).1 (rks_at hM5 (by rw [htl]; exact hi)).2)
        have hcV : ∀ W, Below w5.heap.size w5 W → ∀ i, i < n → (W.cell? ⟨b', o' + i * 4, none⟩ = some (.int .i64 (vs.getD i m0).1.1) ∧ W.cell? ⟨b', o' + i * 4 + 1, none⟩ = some (.int .i64 (vs.getD i m0).1.2)) ∧ W.cell? ⟨b', o' + i * 4 + 2, none⟩ = some (.int .i64 (vs.getD i m0).2.1) ∧ W.cell? ⟨b', o' + i * 4 + 3, none⟩ = some (.int .i64 (vs.getD i m0).2.2) := fun W hb i hi =>
          (rks_cells hb (rks_at hM2 (by rw [hv.out]; exact hi)).1 (rks_at hM2 (by rw [hv.out]; exact hi)).2)
        have it := hti 0 np
        have iv := s2.out 0 (by rw [hv.out]; exact np)
        have hsb := Lib.hid (fun W => rsub_any (vs.getD 0 m0).1 (ts.getD 0 m0).1 (sm_mono iv.1 (by decide)) (sm_mono it.1 (by decide)) W)
        have hds : Sm ((vs.getD 0 m0).1.1 - (ts.getD 0 m0).1.1, (vs.getD 0 m0).1.2 - (ts.getD 0 m0).1.2) 1125899906842624 := by
          have a := it.1
          have b := iv.1
          unfold Sm at a b ⊢
          simp only
          omega
        have hc0 : ∀ W, Below w5.heap.size w5 W → (W.cell? ⟨b', o', none⟩ = some (.int .i64 (vs.getD 0 m0).1.1) ∧ W.cell? ⟨b', o' + 1, none⟩ = some (.int .i64 (vs.getD 0 m0).1.2)) ∧ W.cell? ⟨tb, tq, none⟩ = some (.int .i64 (ts.getD 0 m0).1.1) ∧ W.cell? ⟨tb, tq + 1, none⟩ = some (.int .i64 (ts.getD 0 m0).1.2) := fun W hb => by
          have a := (hcV W hb 0 np).1
          have b := (hcT W hb 0 np).1
          rw [Nat.zero_mul, Nat.add_zero] at a b
          exact ⟨a, b⟩
        obtain ⟨⟨y1, y2⟩, hy⟩ : ∃ p, (vs.getD 0 m0).1 = p := ⟨_, rfl⟩
        obtain ⟨⟨x1, x2⟩, hx⟩ : ∃ p, (ts.getD 0 m0).1 = p := ⟨_, rfl⟩
        rw [hy, hx] at hsb hds hfn
        simp only [hy, hx] at hc0
        unfold zV at hsb
        obtain ⟨d1, hd1⟩ : ∃ d, y1 - x1 = d := ⟨_, rfl⟩
        obtain ⟨d2, hd2⟩ : ∃ d, y2 - x2 = d := ⟨_, rfl⟩
        simp only [hd1, hd2] at hsb hds hfn
        replace hcT := Lib.hid hcT
        replace hcV := Lib.hid hcV
        replace hc0 := Lib.hid hc0
        replace hfn := Lib.hid hfn
        replace hds := Lib.hid hds
        replace hti := Lib.hid hti
        clear hM5 hM2 it iv hy hx hd1 hd2 hts hb5
        go_upto_region 11 with (fail)
        have hB5 : Hid (Below w5.heap.size w5 w5) := Lib.hid (Below.refl _ _)
        have hal := below_drew (hB5.out.alloc hB5.out.size (.cells #[.int .i64 0, .int .i64 0] 58))
        obtain ⟨⟨k0, k1⟩, k2, k3⟩ := hc0.out _ hal
        obtain ⟨⟨k0', k1'⟩, k2', k3'⟩ := hc0.out _ (below_drew hB5.out)
        clear hal
        go_cut [9] from 32 to 82 (fun s8 wx => ∃ (F : Nat), s8 = .pointer (some ⟨F, 0, none⟩) ∧ Hid (Bk wx F 58 #[.int .i64 d1, .int .i64 d2] ∧ Below w5.heap.size w5 wx))
        case first =>
          go_region_with ((go_at_call 60; (with_reducible refine Calls.mono (hsb.out _) ?_); rintro e w1_ ⟨rfl, hb1⟩; (first | (have bk := Bk.kept (Bk.fresh w5.drew 58 #[.int .i64 0, .int .i64 0]) hb1 (by simp); have l0 := bk.cell 0; have l1 := bk.cell 1; have f0 := bk.free 0; have f1 := bk.free 1; simp at l0 l1 f0 f1; clear bk) | skip); replace hb1 := Lib.hid hb1))
          all_goals
            go_wp2_with (fail)
            go_meet
            first
              | exact ⟨_, rfl, Lib.hid (of_after hb1.out)⟩
              | exact ⟨_, rfl, Lib.hid (of_ahead hb1.out)⟩
        case rest =>
          obtain ⟨F, rfl, hR1⟩ := hcut
          obtain ⟨hk1, hb1⟩ := hR1.out
          obtain ⟨w6, hw6⟩ : ∃ w6, w6 = wc := ⟨_, rfl⟩
          subst hw6
          replace hW := Lib.hid (hW.out.trans (hb1.mono hW.out.size))
          have hcA : ∀ W, Below w6.heap.size w6 W → ∀ i, i < n → ((W.cell? ⟨tb, tq + i * 4, none⟩ = some (.int .i64 (ts.getD i m0).1.1) ∧ W.cell? ⟨tb, tq + i * 4 + 1, none⟩ = some (.int .i64 (ts.getD i m0).1.2)) ∧ W.cell? ⟨tb, tq + i * 4 + 2, none⟩ = some (.int .i64 (ts.getD i m0).2.1) ∧ W.cell? ⟨tb, tq + i * 4 + 3, none⟩ = some (.int .i64 (ts.getD i m0).2.2)) ∧ ((W.cell? ⟨b', o' + i * 4, none⟩ = some (.int .i64 (vs.getD i m0).1.1) ∧ W.cell? ⟨b', o' + i * 4 + 1, none⟩ = some (.int .i64 (vs.getD i m0).1.2)) ∧ W.cell? ⟨b', o' + i * 4 + 2, none⟩ = some (.int .i64 (vs.getD i m0).2.1) ∧ W.cell? ⟨b', o' + i * 4 + 3, none⟩ = some (.int .i64 (vs.getD i m0).2.2)) ∧ W.cell? ⟨F, 0, none⟩ = some (.int .i64 d1) ∧ W.cell? ⟨F, 1, none⟩ = some (.int .i64 d2) := fun W hb i hi =>
            ⟨hcT.out W (hb1.trans (hb.mono hb1.size)) i hi, hcV.out W (hb1.trans (hb.mono hb1.size)) i hi, (hk1.kept hb hk1.lt).cell 0, (hk1.kept hb hk1.lt).cell 1⟩
          replace hcA := Lib.hid hcA
          clear hR1 hb1 hk1 hcT hcV hc0 hsb hB5 k0 k1 k2 k3 k0' k1' k2' k3'
          go_wp2_with (fail)
          go_loopw [10, 11] (fun s x wr => ∃ (i : Nat) (al : Bool), s = .bool al ∧ x = .int .i64 i ∧ i ≤ n ∧ Hid ((al = true ↔ ∀ k, k < i → fitsZ (d1, d2) (ts.getD k m0) (vs.getD k m0)) ∧ Below w6.heap.size w6 wr)) (fun _ x _ => n - (intOf x).toNat)
          case atStart => exact ⟨0, true, rfl, rfl, Nat.zero_le _, Lib.hid ⟨⟨fun _ k h => absurd h (Nat.not_lt_zero _), fun _ => rfl⟩, Below.refl _ _⟩⟩
          case round =>
            obtain ⟨i, al, rfl, rfl, hi0, hP⟩ := hrel
            by_cases hi : i < n
            · have i0 : (i : Int) < (n : Int) := by omega
              have hcell := Lib.hid (fun W hb => hcA.out W hb i hi)
              have it := hti.out i hi
              obtain ⟨⟨⟨p1, p2⟩, q1, q2⟩, hp⟩ : ∃ p, ts.getD i m0 = p := ⟨_, rfl⟩
              obtain ⟨⟨⟨y1, y2⟩, z1, z2⟩, hq⟩ : ∃ p, vs.getD i m0 = p := ⟨_, rfl⟩
              rw [hp] at it
              rw [hp, hq] at hcell
              simp only at hcell
              have ha1 := Lib.hid (fun W => radd_any (p1, p2) (d1, d2) (sm_mono it.1 (by decide)) hds.out W)
              have ha2 := Lib.hid (fun W => radd_any (q1, q2) (d1, d2) (sm_mono it.2 (by decide)) hds.out W)
              unfold zV at ha1 ha2
              have hfit : fitsZ (d1, d2) (ts.getD i m0) (vs.getD i m0) ↔ (((p1 + d1 == y1) && (p2 + d2 == y2)) && ((q1 + d1 == z1) && (q2 + d2 == z2))) = true := by
                rw [hp, hq]
                unfold fitsZ
                simp only [Bool.and_eq_true, beq_iff_eq]
              have nz1 := fun w => neqZ (p1 + d1) (p2 + d2) y1 y2 w
              have nz2 := fun w => neqZ (q1 + d1) (q2 + d2) z1 z2 w
              obtain ⟨e1, he1⟩ : ∃ e, ((p1 + d1 == y1) && (p2 + d2 == y2)) = e := ⟨_, rfl⟩
              obtain ⟨e2, he2⟩ : ∃ e, ((q1 + d1 == z1) && (q2 + d2 == z2)) = e := ⟨_, rfl⟩
              simp only [he1] at nz1 hfit
              simp only [he2] at nz2 hfit
              obtain ⟨g1, hg1⟩ : ∃ g, p1 + d1 = g := ⟨_, rfl⟩
              obtain ⟨g2, hg2⟩ : ∃ g, p2 + d2 = g := ⟨_, rfl⟩
              obtain ⟨g3, hg3⟩ : ∃ g, q1 + d1 = g := ⟨_, rfl⟩
              obtain ⟨g4, hg4⟩ : ∃ g, q2 + d2 = g := ⟨_, rfl⟩
              simp only [hg1, hg2] at nz1 ha1
              simp only [hg3, hg4] at nz2 ha2
              have hnx : ((al && (e1 && e2)) = true ↔ ∀ k, k < i + 1 → fitsZ (d1, d2) (ts.getD k m0) (vs.getD k m0)) := by
                rw [Bool.and_eq_true, hP.out.1, ← hfit]
                constructor
                · rintro ⟨h1, h2⟩ k hk
                  rcases Nat.lt_succ_iff_lt_or_eq.1 hk with h | rfl
                  · exact h1 k h
                  · exact h2
                · intro h
                  exact ⟨fun k hk => h k (by omega), h i (by omega)⟩
              replace hnx := Lib.hid hnx
              have hWi := Lib.hid hP.out.2
              clear hP hfit he1 he2 hg1 hg2 hg3 hg4 hp hq it
              obtain ⟨⟨⟨k0, k1⟩, k2, k3⟩, ⟨⟨k4, k5⟩, k6, k7⟩, k8, k9⟩ := hcell.out wr hWi.out
              cases e1
              · simp only [Bool.not_false] at nz1
                go_upto_region 16 with (fail)
                refine wp_region_held_drew (S := fun w' => ((w'.cell? ⟨tb, tq + i * 4, none⟩ = some (.int .i64 p1) ∧ w'.cell? ⟨tb, tq + i * 4 + 1, none⟩ = some (.int .i64 p2)) ∧ w'.cell? ⟨tb, tq + i * 4 + 2, none⟩ = some (.int .i64 q1) ∧ w'.cell? ⟨tb, tq + i * 4 + 3, none⟩ = some (.int .i64 q2)) ∧ ((w'.cell? ⟨b', o' + i * 4, none⟩ = some (.int .i64 y1) ∧ w'.cell? ⟨b', o' + i * 4 + 1, none⟩ = some (.int .i64 y2)) ∧ w'.cell? ⟨b', o' + i * 4 + 2, none⟩ = some (.int .i64 z1) ∧ w'.cell? ⟨b', o' + i * 4 + 3, none⟩ = some (.int .i64 z2)) ∧ w'.cell? ⟨F, 0, none⟩ = some (.int .i64 d1) ∧ w'.cell? ⟨F, 1, none⟩ = some (.int .i64 d2)) (by kernel_rfl) (hcell.out _ (below_drew hWi.out)) (fun hHeld => ?_)
                refine wpAnyH_take (i := 0) (oi := { dst := some 54, op := _, type := _, pos := _, after := _, guard := _ }) (v := ?_) rfl (by kernel_rfl) (by kernel_rfl) (by kernel_rfl) (fun _ _ _ h => h) (Or.inl ⟨by rfl, ?_⟩) (by assumption) ?_
                rotate_left
                focus ((intro w hSw); (try dsimp only at hSw); go_simp; (try (with_reducible rfl)))
                try simp only [Act.put, List.setIfInBounds_toArray, List.set_cons_zero, List.set_cons_succ]
                refine wpAnyH_take (i := 1) (oi := { dst := some 55, op := _, type := _, pos := _, after := _, guard := _ }) (v := ?_) rfl (by kernel_rfl) (by kernel_rfl) (by kernel_rfl) (fun _ _ _ h => h) (Or.inl ⟨by rfl, ?_⟩) (by assumption) ?_
                rotate_left
                focus ((intro w hSw); (try dsimp only at hSw); go_simp; (try (with_reducible rfl)))
                try simp only [Act.put, List.setIfInBounds_toArray, List.set_cons_zero, List.set_cons_succ]
                refine wpAnyH_take (i := 2) (oi := { dst := some 56, op := _, type := _, pos := _, after := _, guard := _ }) (v := ?_) rfl (by kernel_rfl) (by kernel_rfl) (by kernel_rfl) (fun _ _ _ h => h) (Or.inl ⟨by rfl, ?_⟩) (by assumption) ?_
                rotate_left
                focus ((intro w hSw); (try dsimp only at hSw); go_simp; (try (with_reducible rfl)))
                try simp only [Act.put, List.setIfInBounds_toArray, List.set_cons_zero, List.set_cons_succ]
                refine wpAnyH_take (i := 3) (oi := { dst := some 57, op := _, type := _, pos := _, after := _, guard := _ }) (v := ?_) rfl (by kernel_rfl) (by kernel_rfl) (by kernel_rfl) (fun _ _ _ h => h) (Or.inl ⟨by rfl, ?_⟩) (by assumption) ?_
                rotate_left
                focus ((intro w hSw); (try dsimp only at hSw); go_simp; (try (with_reducible rfl)))
                try simp only [Act.put, List.setIfInBounds_toArray, List.set_cons_zero, List.set_cons_succ]
                refine wpAnyH_take (i := 4) (oi := { dst := some 58, op := _, type := _, pos := _, after := _, guard := _ }) (v := ?_) rfl (by kernel_rfl) (by kernel_rfl) (by kernel_rfl) (fun _ _ _ h => h) (Or.inl ⟨by rfl, ?_⟩) (by assumption) ?_
                rotate_left
                focus ((intro w hSw); (try dsimp only at hSw); go_simp; (try (with_reducible rfl)))
                try simp only [Act.put, List.setIfInBounds_toArray, List.set_cons_zero, List.set_cons_succ]
                refine wpAnyH_take (i := 5) (oi := { dst := some 59, op := _, type := _, pos := _, after := _, guard := _ }) (v := ?_) rfl (by kernel_rfl) (by kernel_rfl) (by kernel_rfl) (fun _ _ _ h => h) (Or.inl ⟨by rfl, ?_⟩) (by assumption) ?_
                rotate_left
                focus ((intro w hSw); (try dsimp only at hSw); go_simp; (try (with_reducible rfl)))
                try simp only [Act.put, List.setIfInBounds_toArray, List.set_cons_zero, List.set_cons_succ]
                refine wpAnyH_take (i := 7) (oi := { dst := some 61, op := _, type := _, pos := _, after := _, guard := _ }) (v := ?_) rfl (by kernel_rfl) (by kernel_rfl) (by kernel_rfl) (fun _ _ _ h => h) (Or.inl ⟨by rfl, ?_⟩) (by assumption) ?_
                rotate_left
                focus ((intro w hSw); (try dsimp only at hSw); go_simp; (try (with_reducible rfl)))
                try simp only [Act.put, List.setIfInBounds_toArray, List.set_cons_zero, List.set_cons_succ]
                refine wpAnyH_take (i := 8) (oi := { dst := some 62, op := _, type := _, pos := _, after := _, guard := _ }) (v := ?_) rfl (by kernel_rfl) (by kernel_rfl) (by kernel_rfl) (fun _ _ _ h => h) (Or.inl ⟨by rfl, ?_⟩) (by assumption) ?_
                rotate_left
                focus ((intro w hSw); (try dsimp only at hSw); go_simp; (try (with_reducible rfl)))
                try simp only [Act.put, List.setIfInBounds_toArray, List.set_cons_zero, List.set_cons_succ]
                refine wpAnyH_take (i := 9) (oi := { dst := some 63, op := _, type := _, pos := _, after := _, guard := _ }) (v := ?_) rfl (by kernel_rfl) (by kernel_rfl) (by kernel_rfl) (fun _ _ _ h => h) (Or.inl ⟨by rfl, ?_⟩) (by assumption) ?_
                rotate_left
                focus ((intro w hSw); (try dsimp only at hSw); go_simp; (try (with_reducible rfl)))
                try simp only [Act.put, List.setIfInBounds_toArray, List.set_cons_zero, List.set_cons_succ]
                refine wpAnyH_take (i := 10) (oi := { dst := some 64, op := _, type := _, pos := _, after := _, guard := _ }) (v := ?_) rfl (by kernel_rfl) (by kernel_rfl) (by kernel_rfl) (fun _ _ _ h => h) (Or.inl ⟨by rfl, ?_⟩) (by assumption) ?_
                rotate_left
                focus ((intro w hSw); (try dsimp only at hSw); go_simp; (try (with_reducible rfl)))
                try simp only [Act.put, List.setIfInBounds_toArray, List.set_cons_zero, List.set_cons_succ]
                refine wpAnyH_take (i := 11) (oi := { dst := some 65, op := _, type := _, pos := _, after := _, guard := _ }) (v := ?_) rfl (by kernel_rfl) (by kernel_rfl) (by kernel_rfl) (fun _ _ _ h => h) (Or.inl ⟨by rfl, ?_⟩) (by assumption) ?_
                rotate_left
                focus ((intro w hSw); (try dsimp only at hSw); go_simp; (try (with_reducible rfl)))
                try simp only [Act.put, List.setIfInBounds_toArray, List.set_cons_zero, List.set_cons_succ]
                refine wpAnyH_ready (rs := [6]) (by kernel_rfl) (by simp) ?_
                refine AllReadyH.cons (o := { dst := some 60, op := _, type := _, pos := _, after := _, guard := _ }) rfl (fun K hK => ?_) AllReadyH.nil
                go_simp
                refine Calls.mono (ha1.out _) ?_
                rintro e w1_ ⟨rfl, hb1⟩
                replace hWi := Lib.hid ((below_drew hWi.out).trans (hb1.mono (below_drew hWi.out).size))
                go_wp2_with (fail)
                refine hK.out _ _ (hcell.out w1_ hWi.out) (fun hHeld => ?_)
                clear hK K
                try simp only [Act.put, List.setIfInBounds_toArray, List.set_cons_zero, List.set_cons_succ]
                refine wpAnyH_take (i := 12) (oi := { dst := some 66, op := _, type := _, pos := _, after := _, guard := _ }) (v := ?_) rfl (by kernel_rfl) (by kernel_rfl) (by kernel_rfl) (fun _ _ _ h => h) (Or.inl ⟨by rfl, ?_⟩) (by assumption) ?_
                rotate_left
                focus ((intro w hSw); (try dsimp only at hSw); go_simp; (try (with_reducible rfl)))
                try simp only [Act.put, List.setIfInBounds_toArray, List.set_cons_zero, List.set_cons_succ]
                refine wpAnyH_take (i := 13) (oi := { dst := some 67, op := _, type := _, pos := _, after := _, guard := _ }) (v := ?_) rfl (by kernel_rfl) (by kernel_rfl) (by kernel_rfl) (fun _ _ _ h => h) (Or.inl ⟨by rfl, ?_⟩) (by assumption) ?_
                rotate_left
                focus ((intro w hSw); (try dsimp only at hSw); go_simp; (try (with_reducible rfl)))
                try simp only [Act.put, List.setIfInBounds_toArray, List.set_cons_zero, List.set_cons_succ]
                refine wpAnyH_take (i := 14) (oi := { dst := some 68, op := _, type := _, pos := _, after := _, guard := _ }) (v := undef) rfl (by kernel_rfl) (by kernel_rfl) (by kernel_rfl) (fun _ _ _ h => h) (Or.inr ⟨by rfl, rfl⟩) (by assumption) ?_
                try simp only [Act.put, List.setIfInBounds_toArray, List.set_cons_zero, List.set_cons_succ]
                refine wpAnyH_take (i := 15) (oi := { dst := some 69, op := _, type := _, pos := _, after := _, guard := _ }) (v := undef) rfl (by kernel_rfl) (by kernel_rfl) (by kernel_rfl) (fun _ _ _ h => h) (Or.inr ⟨by rfl, rfl⟩) (by assumption) ?_
                try simp only [Act.put, List.setIfInBounds_toArray, List.set_cons_zero, List.set_cons_succ]
                refine wpAnyH_take (i := 16) (oi := { dst := some 70, op := _, type := _, pos := _, after := _, guard := _ }) (v := undef) rfl (by kernel_rfl) (by kernel_rfl) (by kernel_rfl) (fun _ _ _ h => h) (Or.inr ⟨by rfl, rfl⟩) (by assumption) ?_
                try simp only [Act.put, List.setIfInBounds_toArray, List.set_cons_zero, List.set_cons_succ]
                refine wpAnyH_take (i := 17) (oi := { dst := some 71, op := _, type := _, pos := _, after := _, guard := _ }) (v := undef) rfl (by kernel_rfl) (by kernel_rfl) (by kernel_rfl) (fun _ _ _ h => h) (Or.inr ⟨by rfl, rfl⟩) (by assumption) ?_
                try simp only [Act.put, List.setIfInBounds_toArray, List.set_cons_zero, List.set_cons_succ]
                refine wpAnyH_take (i := 18) (oi := { dst := some 72, op := _, type := _, pos := _, after := _, guard := _ }) (v := undef) rfl (by kernel_rfl) (by kernel_rfl) (by kernel_rfl) (fun _ _ _ h => h) (Or.inr ⟨by rfl, rfl⟩) (by assumption) ?_
                try simp only [Act.put, List.setIfInBounds_toArray, List.set_cons_zero, List.set_cons_succ]
                refine wpAnyH_take (i := 19) (oi := { dst := some 73, op := _, type := _, pos := _, after := _, guard := _ }) (v := undef) rfl (by kernel_rfl) (by kernel_rfl) (by kernel_rfl) (fun _ _ _ h => h) (Or.inr ⟨by rfl, rfl⟩) (by assumption) ?_
                try simp only [Act.put, List.setIfInBounds_toArray, List.set_cons_zero, List.set_cons_succ]
                refine wpAnyH_take (i := 20) (oi := { dst := some 74, op := _, type := _, pos := _, after := _, guard := _ }) (v := undef) rfl (by kernel_rfl) (by kernel_rfl) (by kernel_rfl) (fun _ _ _ h => h) (Or.inr ⟨by rfl, rfl⟩) (by assumption) ?_
                try simp only [Act.put, List.setIfInBounds_toArray, List.set_cons_zero, List.set_cons_succ]
                refine wpAnyH_take (i := 21) (oi := { dst := some 75, op := _, type := _, pos := _, after := _, guard := _ }) (v := undef) rfl (by kernel_rfl) (by kernel_rfl) (by kernel_rfl) (fun _ _ _ h => h) (Or.inr ⟨by rfl, rfl⟩) (by assumption) ?_
                try simp only [Act.put, List.setIfInBounds_toArray, List.set_cons_zero, List.set_cons_succ]
                refine wpAnyH_take (i := 22) (oi := { dst := some 76, op := _, type := _, pos := _, after := _, guard := _ }) (v := undef) rfl (by kernel_rfl) (by kernel_rfl) (by kernel_rfl) (fun _ _ _ h => h) (Or.inr ⟨by rfl, rfl⟩) (by assumption) ?_
                try simp only [Act.put, List.setIfInBounds_toArray, List.set_cons_zero, List.set_cons_succ]
                refine wpAnyH_take (i := 23) (oi := { dst := some 77, op := _, type := _, pos := _, after := _, guard := _ }) (v := undef) rfl (by kernel_rfl) (by kernel_rfl) (by kernel_rfl) (fun _ _ _ h => h) (Or.inr ⟨by rfl, rfl⟩) (by assumption) ?_
                try simp only [Act.put, List.setIfInBounds_toArray, List.set_cons_zero, List.set_cons_succ]
                refine wpAnyH_take (i := 24) (oi := { dst := some 78, op := _, type := _, pos := _, after := _, guard := _ }) (v := undef) rfl (by kernel_rfl) (by kernel_rfl) (by kernel_rfl) (fun _ _ _ h => h) (Or.inr ⟨by rfl, rfl⟩) (by assumption) ?_
                try simp only [Act.put, List.setIfInBounds_toArray, List.set_cons_zero, List.set_cons_succ]
                refine wpAnyH_take (i := 25) (oi := { dst := some 79, op := _, type := _, pos := _, after := _, guard := _ }) (v := undef) rfl (by kernel_rfl) (by kernel_rfl) (by kernel_rfl) (fun _ _ _ h => h) (Or.inr ⟨by rfl, rfl⟩) (by assumption) ?_
                try simp only [Act.put, List.setIfInBounds_toArray, List.set_cons_zero, List.set_cons_succ]
                refine wpAnyH_take (i := 26) (oi := { dst := some 80, op := _, type := _, pos := _, after := _, guard := _ }) (v := undef) rfl (by kernel_rfl) (by kernel_rfl) (by kernel_rfl) (fun _ _ _ h => h) (Or.inr ⟨by rfl, rfl⟩) (by assumption) ?_
                try simp only [Act.put, List.setIfInBounds_toArray, List.set_cons_zero, List.set_cons_succ]
                refine wpAnyH_take (i := 27) (oi := { dst := some 81, op := _, type := _, pos := _, after := _, guard := _ }) (v := ?_) rfl (by kernel_rfl) (by kernel_rfl) (by kernel_rfl) (fun _ _ _ h => h) (Or.inl ⟨by rfl, ?_⟩) (by assumption) ?_
                rotate_left
                focus ((intro w hSw); (try dsimp only at hSw); go_simp; (try (with_reducible rfl)))
                try simp only [Act.put, List.setIfInBounds_toArray, List.set_cons_zero, List.set_cons_succ]
                refine wpAnyH_done (by kernel_rfl) ?_ _
                simp only [Bool.false_and, Bool.and_false] at hnx
                clear k0 k1 k2 k3 k4 k5 k6 k7 k8 k9 hb1 hHeld hcell ha1 ha2 nz1 nz2
                go_wp2_with (fail)
                exact ⟨⟨i + 1, false, rfl, rfl, by omega, Lib.hid ⟨hnx.out, hWi.out⟩⟩, by simp [intOf]; omega⟩
              · simp only [Bool.not_true] at nz1
                cases e2
                · simp only [Bool.not_false] at nz2
                  go_upto_region 16 with (fail)
                  go_region_held3 (fun w' => ((w'.cell? ⟨tb, tq + i * 4, none⟩ = some (.int .i64 p1) ∧ w'.cell? ⟨tb, tq + i * 4 + 1, none⟩ = some (.int .i64 p2)) ∧ w'.cell? ⟨tb, tq + i * 4 + 2, none⟩ = some (.int .i64 q1) ∧ w'.cell? ⟨tb, tq + i * 4 + 3, none⟩ = some (.int .i64 q2)) ∧ ((w'.cell? ⟨b', o' + i * 4, none⟩ = some (.int .i64 y1) ∧ w'.cell? ⟨b', o' + i * 4 + 1, none⟩ = some (.int .i64 y2)) ∧ w'.cell? ⟨b', o' + i * 4 + 2, none⟩ = some (.int .i64 z1) ∧ w'.cell? ⟨b', o' + i * 4 + 3, none⟩ = some (.int .i64 z2)) ∧ w'.cell? ⟨F, 0, none⟩ = some (.int .i64 d1) ∧ w'.cell? ⟨F, 1, none⟩ = some (.int .i64 d2)) (go_keep) ((go_at_call 59; (first | (with_reducible refine Calls.mono (ha1.out _) ?_) | (with_reducible refine Calls.mono (ha2.out _) ?_)); rintro e w1_ ⟨rfl, hb1⟩; (first | (replace hWi := Lib.hid (hWi.out.trans (hb1.mono hWi.out.size))) | (replace hWi := Lib.hid ((below_drew hWi.out).trans (hb1.mono (below_drew hWi.out).size)))); have kS : ((w1_.cell? ⟨tb, tq + i * 4, none⟩ = some (.int .i64 p1) ∧ w1_.cell? ⟨tb, tq + i * 4 + 1, none⟩ = some (.int .i64 p2)) ∧ w1_.cell? ⟨tb, tq + i * 4 + 2, none⟩ = some (.int .i64 q1) ∧ w1_.cell? ⟨tb, tq + i * 4 + 3, none⟩ = some (.int .i64 q2)) ∧ ((w1_.cell? ⟨b', o' + i * 4, none⟩ = some (.int .i64 y1) ∧ w1_.cell? ⟨b', o' + i * 4 + 1, none⟩ = some (.int .i64 y2)) ∧ w1_.cell? ⟨b', o' + i * 4 + 2, none⟩ = some (.int .i64 z1) ∧ w1_.cell? ⟨b', o' + i * 4 + 3, none⟩ = some (.int .i64 z2)) ∧ w1_.cell? ⟨F, 0, none⟩ = some (.int .i64 d1) ∧ w1_.cell? ⟨F, 1, none⟩ = some (.int .i64 d2) := hcell.out w1_ hWi.out))
                  all_goals
                    simp only [Bool.and_false] at hnx
                    clear k0 k1 k2 k3 k4 k5 k6 k7 k8 k9 hcell ha1 ha2 nz1 nz2
                    go_wp2_with (fail)
                    exact ⟨⟨i + 1, false, rfl, rfl, by omega, Lib.hid ⟨hnx.out, hWi.out⟩⟩, by simp [intOf]; omega⟩
                · simp only [Bool.not_true] at nz2
                  go_upto_region 16 with (fail)
                  go_region_held3 (fun w' => ((w'.cell? ⟨tb, tq + i * 4, none⟩ = some (.int .i64 p1) ∧ w'.cell? ⟨tb, tq + i * 4 + 1, none⟩ = some (.int .i64 p2)) ∧ w'.cell? ⟨tb, tq + i * 4 + 2, none⟩ = some (.int .i64 q1) ∧ w'.cell? ⟨tb, tq + i * 4 + 3, none⟩ = some (.int .i64 q2)) ∧ ((w'.cell? ⟨b', o' + i * 4, none⟩ = some (.int .i64 y1) ∧ w'.cell? ⟨b', o' + i * 4 + 1, none⟩ = some (.int .i64 y2)) ∧ w'.cell? ⟨b', o' + i * 4 + 2, none⟩ = some (.int .i64 z1) ∧ w'.cell? ⟨b', o' + i * 4 + 3, none⟩ = some (.int .i64 z2)) ∧ w'.cell? ⟨F, 0, none⟩ = some (.int .i64 d1) ∧ w'.cell? ⟨F, 1, none⟩ = some (.int .i64 d2)) (go_keep) ((go_at_call 59; (first | (with_reducible refine Calls.mono (ha1.out _) ?_) | (with_reducible refine Calls.mono (ha2.out _) ?_)); rintro e w1_ ⟨rfl, hb1⟩; (first | (replace hWi := Lib.hid (hWi.out.trans (hb1.mono hWi.out.size))) | (replace hWi := Lib.hid ((below_drew hWi.out).trans (hb1.mono (below_drew hWi.out).size)))); have kS : ((w1_.cell? ⟨tb, tq + i * 4, none⟩ = some (.int .i64 p1) ∧ w1_.cell? ⟨tb, tq + i * 4 + 1, none⟩ = some (.int .i64 p2)) ∧ w1_.cell? ⟨tb, tq + i * 4 + 2, none⟩ = some (.int .i64 q1) ∧ w1_.cell? ⟨tb, tq + i * 4 + 3, none⟩ = some (.int .i64 q2)) ∧ ((w1_.cell? ⟨b', o' + i * 4, none⟩ = some (.int .i64 y1) ∧ w1_.cell? ⟨b', o' + i * 4 + 1, none⟩ = some (.int .i64 y2)) ∧ w1_.cell? ⟨b', o' + i * 4 + 2, none⟩ = some (.int .i64 z1) ∧ w1_.cell? ⟨b', o' + i * 4 + 3, none⟩ = some (.int .i64 z2)) ∧ w1_.cell? ⟨F, 0, none⟩ = some (.int .i64 d1) ∧ w1_.cell? ⟨F, 1, none⟩ = some (.int .i64 d2) := hcell.out w1_ hWi.out))
                  all_goals
                    simp only [Bool.and_true] at hnx
                    clear k0 k1 k2 k3 k4 k5 k6 k7 k8 k9 hcell ha1 ha2 nz1 nz2
                    go_wp2_with (fail)
                    exact ⟨⟨i + 1, al, rfl, rfl, by omega, Lib.hid ⟨hnx.out, hWi.out⟩⟩, by simp [intOf]; omega⟩
            · have i0 : ¬ (i : Int) < (n : Int) := by omega
              obtain rfl : i = n := by omega
              cases al
              · have hno : ∀ k, k < j + 1 → ¬ fitsN zs vs k := fun k hk => by
                  rcases Nat.lt_succ_iff_lt_or_eq.1 hk with h | rfl
                  · exact hQ.out.1 k h
                  · exact fun h => absurd (hP.out.1.2 (hfn.out.1 h)) (by decide)
                have hWi := Lib.hid (hW.out.trans (hP.out.2.mono hW.out.size))
                replace hno := Lib.hid hno
                clear hP hQ hfn hcA hds hti
                go_wp2_with (fail)
                exact ⟨⟨j + 1, rfl, by omega, Lib.hid ⟨hno.out, hWi.out⟩⟩, by simp [intOf]; omega⟩
              · have hrt : r = true := hr.out.2 (.inr ⟨j, hj, hfn.out.2 (hP.out.1.1 rfl)⟩)
                subst hrt
                have hWi := Lib.hid (hW.out.trans (hP.out.2.mono hW.out.size))
                clear hP hQ hfn hcA hds hti
                go_wp2_with (fail)
                go_returns
                exact ⟨rfl, hWi.out⟩
      · have j0 : ¬ (j : Int) < 4 := by omega
        have hrf : r = false := by
          cases r
          · rfl
          · rcases hr.out.1 rfl with h | ⟨k, hk, h⟩
            · exact absurd h hn0
            · exact absurd h (hQ.out.1 k (by omega))
        subst hrf
        go_wp2_with (fail)
        go_returns
        exact ⟨rfl, hQ.out.2⟩
set_option maxRecDepth 100000 in
set_option maxHeartbeats 4000000 in
theorem rsame_no (A1 A2 : Option Addr) (zs vs : List Mk) (n m c1 c2 : Nat) (w : World) (hz : zs.length = n) (hv : vs.length = m) (h1 : Rks w A1 zs) (h2 : Rks w A2 vs) (s1 : Sms zs) (s2 : Sms vs) (hno : ¬ (rightZ zs ∧ rightZ vs ∧ n = m)) :
    Calls Tryd.prog 40 #[.slice A1 n c1, .slice A2 m c2] w fun e w' => e = .returned (.bool false) ∧ Below w.heap.size w w' := by
  obtain ⟨r1, hr1⟩ : ∃ r1 : Bool, r1 = true ↔ rightZ zs := by classical exact ⟨decide (rightZ zs), decide_eq_true_iff⟩
  obtain ⟨r2, hr2⟩ : ∃ r2 : Bool, r2 = true ↔ rightZ vs := by classical exact ⟨decide (rightZ vs), decide_eq_true_iff⟩
  have hp1 := Lib.hid (rright_any A1 zs n c1 w hz h1 s1 r1 hr1)
  have hp2 := Lib.hid (fun W (hb : Below w.heap.size w W) => rright_any A2 vs m c2 W hv (h2.kept hb) s2 r2 hr2)
  have hrr : r1 = true → r2 = true → ¬ n = m := fun a b c => hno ⟨hr1.1 a, hr2.1 b, c⟩
  clear hno hr1 hr2 h1 h2 s1 s2 hz hv
  cases r1
  · clear hrr
    go_enter Tryd.func40, Tryd.ntmps40
    go_wp2_with (fail)
    refine hp1.out.mono ?_
    rintro e w3 ⟨rfl, hb3⟩
    replace hb3 := Lib.hid hb3
    go_wp2_with (fail)
    refine (hp2.out _ hb3.out).mono ?_
    rintro e w4 ⟨rfl, hb4⟩
    go_wp2_with (fail)
    go_returns
    exact ⟨rfl, hb3.out.trans (hb4.mono hb3.out.size)⟩
  · cases r2
    · clear hrr
      go_enter Tryd.func40, Tryd.ntmps40
      go_wp2_with (fail)
      refine hp1.out.mono ?_
      rintro e w3 ⟨rfl, hb3⟩
      replace hb3 := Lib.hid hb3
      go_wp2_with (fail)
      refine (hp2.out _ hb3.out).mono ?_
      rintro e w4 ⟨rfl, hb4⟩
      go_wp2_with (fail)
      go_returns
      exact ⟨rfl, hb3.out.trans (hb4.mono hb3.out.size)⟩
    · have n0 : ¬ (n : Int) = (m : Int) := by have := hrr rfl rfl; omega
      clear hrr
      go_enter Tryd.func40, Tryd.ntmps40
      go_wp2_with (fail)
      refine hp1.out.mono ?_
      rintro e w3 ⟨rfl, hb3⟩
      replace hb3 := Lib.hid hb3
      go_wp2_with (fail)
      refine (hp2.out _ hb3.out).mono ?_
      rintro e w4 ⟨rfl, hb4⟩
      go_wp2_with (fail)
      go_returns
      exact ⟨rfl, hb3.out.trans (hb4.mono hb3.out.size)⟩
end Go.Proofs.YtndgcndmkfjdgaaDoor
