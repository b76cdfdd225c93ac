import Derived.Test.YtbhgjjicmbbjaaaDoorTrF
namespace Go.Proofs.YtbhgjjicmbbjaaaDoor
open Go.RowKit
set_option linter.unusedVariables false
set_option linter.unusedSimpArgs false
/-! chapter 17: private -/
set_option maxRecDepth 100000 in
set_option maxHeartbeats 4000000 in
theorem private_any (x : Pr) (hx : prI x) (w : World) (hM : Mk w) : Calls Tryd.prog 32 #[prV x] w fun e w' => e = .returned (.tuple #[.string ⟨(prL x).toArray⟩, .bool (prOk x)]) ∧ Below w.heap.size w w' := by
  obtain ⟨p, sd, f, n, s⟩ := x
  obtain ⟨h0, h1, h2, h3⟩ := hx
  simp only at h0 h1 h2 h3
  have hwd := Lib.hid (fun W (h : Mk W) => word_any f W h)
  have hip := Lib.hid (fun W (h : Mk W) => itoa_any p h0.1 h0.2 W h)
  have hit := Lib.hid (fun W (h : Mk W) => itoa_any n h2.1 h2.2 W h)
  have hqu := Lib.hid (fun W => quoted_any s h3 W)
  have hri := Lib.hid (fun W (h : Mk W) => right_any f n s W h)
  have l1 := wordL_len f
  have l2 := itoa_len h2
  have l3 := quote_size s
  have l4 : (ptL ⟨p, sd, f, n, s⟩).length ≤ 21 := by
    unfold ptL
    split
    · exact itoa_len h0
    · simp
  obtain ⟨R, hR⟩ : ∃ R, rightP f n s = R := ⟨_, rfl⟩
  obtain ⟨OK, hcq⟩ : ∃ OK, prOk ⟨p, sd, f, n, s⟩ = OK := ⟨_, rfl⟩
  have hpl : prL ⟨p, sd, f, n, s⟩ = wordL f ++ [32] ++ Lib.itoa n ++ [32] ++ ptL ⟨p, sd, f, n, s⟩ ++ [32] ++ quoteL s.data.toList := rfl
  rw [hcq, hpl]
  rw [show prOk ⟨p, sd, f, n, s⟩ = (rightP f n s && decide (0 ≤ p) && decide (p ≤ 100) && (sd || decide (p = 0))) from rfl, hR] at hcq
  rw [hR] at hri
  have hpt : sd = false → (⟨(ptL ⟨p, sd, f, n, s⟩).toArray⟩ : ByteArray) = ⟨#[45]⟩ := fun h => by subst h; rfl
  have hpt2 : sd = true → (⟨(ptL ⟨p, sd, f, n, s⟩).toArray⟩ : ByteArray) = ⟨(Lib.itoa p).toArray⟩ := fun h => by subst h; rfl
  clear hpl hR
  unfold wordB at hwd
  obtain ⟨P, hP⟩ : ∃ P, ptL ⟨p, sd, f, n, s⟩ = P := ⟨_, rfl⟩
  rw [hP] at l4 hpt hpt2 ⊢
  clear hP
  have c1 := cat_run ⟨(wordL f).toArray⟩ ⟨#[32]⟩ (by rw [ba_size]; show _ + 1 ≤ _; omega)
  have c2 := cat_run ⟨(wordL f ++ [32]).toArray⟩ ⟨(Lib.itoa n).toArray⟩ (by rw [ba_size, ba_size, List.length_append, List.length_singleton]; omega)
  have c3 := cat_run ⟨(wordL f ++ [32] ++ Lib.itoa n).toArray⟩ ⟨#[32]⟩ (by rw [ba_size, List.length_append, List.length_append, List.length_singleton]; show _ + 1 ≤ _; omega)
  have c4 := cat_run ⟨(wordL f ++ [32] ++ Lib.itoa n ++ [32]).toArray⟩ ⟨P.toArray⟩ (by rw [ba_size, ba_size, List.length_append, List.length_append, List.length_append, List.length_singleton]; omega)
  have c5 := cat_run ⟨(wordL f ++ [32] ++ Lib.itoa n ++ [32] ++ P).toArray⟩ ⟨#[32]⟩ (by rw [ba_size, List.length_append, List.length_append, List.length_append, List.length_append, List.length_singleton]; show _ + 1 ≤ _; omega)
  have c6 := cat_run ⟨(wordL f ++ [32] ++ Lib.itoa n ++ [32] ++ P ++ [32]).toArray⟩ ⟨(quoteL s.data.toList).toArray⟩ (by rw [ba_size, ba_size, List.length_append, List.length_append, List.length_append, List.length_append, List.length_append, List.length_singleton]; omega)
  rw [ba_list, show (⟨#[32]⟩ : ByteArray).data.toList = [32] from rfl] at c1 c3 c5
  rw [ba_list, ba_list] at c2 c4 c6
  obtain ⟨S1, e1⟩ : ∃ S : ByteArray, ⟨(wordL f).toArray⟩ = S := ⟨_, rfl⟩
  obtain ⟨S2, e2⟩ : ∃ S : ByteArray, ⟨(wordL f ++ [32]).toArray⟩ = S := ⟨_, rfl⟩
  obtain ⟨S3, e3⟩ : ∃ S : ByteArray, ⟨(wordL f ++ [32] ++ Lib.itoa n).toArray⟩ = S := ⟨_, rfl⟩
  obtain ⟨S4, e4⟩ : ∃ S : ByteArray, ⟨(wordL f ++ [32] ++ Lib.itoa n ++ [32]).toArray⟩ = S := ⟨_, rfl⟩
  obtain ⟨S5, e5⟩ : ∃ S : ByteArray, ⟨(wordL f ++ [32] ++ Lib.itoa n ++ [32] ++ P).toArray⟩ = S := ⟨_, rfl⟩
  obtain ⟨S6, e6⟩ : ∃ S : ByteArray, ⟨(wordL f ++ [32] ++ Lib.itoa n ++ [32] ++ P ++ [32]).toArray⟩ = S := ⟨_, rfl⟩
  obtain ⟨S7, e7⟩ : ∃ S : ByteArray, ⟨(wordL f ++ [32] ++ Lib.itoa n ++ [32] ++ P ++ [32] ++ quoteL s.data.toList).toArray⟩ = S := ⟨_, rfl⟩
  obtain ⟨T1, t1⟩ : ∃ S : ByteArray, ⟨(Lib.itoa n).toArray⟩ = S := ⟨_, rfl⟩
  obtain ⟨T2, t2⟩ : ∃ S : ByteArray, ⟨(quoteL s.data.toList).toArray⟩ = S := ⟨_, rfl⟩
  obtain ⟨T3, t3⟩ : ∃ S : ByteArray, ⟨P.toArray⟩ = S := ⟨_, rfl⟩
  simp only [e1, e2, e3, e4, e5, e6, e7, t1, t2, t3] at c1 c2 c3 c4 c5 c6 hwd hit hqu hpt hpt2
  rw [e7]
  clear e1 e2 e3 e4 e5 e6 e7 t1 t2 t3 l1 l2 l3 l4 h1 h2 h3
  have hZ := hM.box 34 #[.int .i64 p, .bool sd, .int .i64 f, .int .i64 n, .string s]
  unfold prV
  simp only
  obtain ⟨q, hq⟩ : ∃ q, w.heap.size = q := ⟨_, rfl⟩
  rw [hq] at hZ
  obtain ⟨X, hX⟩ : ∃ X, w.alloc (.cells #[.int .i64 p, .bool sd, .int .i64 f, .int .i64 n, .string s] 34) = X := ⟨_, rfl⟩
  rw [hX] at hZ
  have k0 := hZ.bk.cell 0
  have k1 := hZ.bk.cell 1
  simp at k0 k1
  rw [← hX] at k0 k1
  replace hX := Lib.hid hX
  replace hZ := Lib.hid hZ
  clear hM
  cases sd
  · skip
    obtain rfl := hpt rfl
    clear hpt hpt2
    go_enter Tryd.func32, Tryd.ntmps32
    go_upto_region 4 with (fail)
    rw [hX.out]
    clear k0 k1 hX
    replace hcq := Lib.hid hcq
    go_upto_region 4 with (fail)
    go_cut [5] from 11 to 36 (fun s5 wx => s5 = .bool OK ∧ Hid (Bx w q 34 #[  .int .i64 p, .bool false, .int .i64 f, .int .i64 n, .string s] wx))
    case first =>
      have k0 := hZ.out.bk.cell 0
      have k1 := hZ.out.bk.cell 1
      have k2 := hZ.out.bk.cell 2
      have k3 := hZ.out.bk.cell 3
      have k4 := hZ.out.bk.cell 4
      simp at k0 k1 k2 k3 k4
      go_wp2_with (fail)
      refine (hri.out _ hZ.out.mark).mono ?_
      rintro e w1_ ⟨rfl, hb⟩
      have hZ2 := hZ.out.bel hb
      replace hZ := Lib.hid hZ2
      clear hZ2 hb k0 k1 k2 k3 k4
      have k0 := hZ.out.bk.cell 0
      have k1 := hZ.out.bk.cell 1
      simp at k0 k1
      go_wp2_with (fail)
      all_goals
        go_meet
        refine ⟨?_, hZ⟩
        rw [← hcq.out]
        simp_all
        try omega
        try (by_cases hp0 : p = 0 <;> simp [hp0])
    case' rest =>
      obtain ⟨rfl, hcut⟩ := hcut
      clear hZ
      replace hZ := hcut
      clear hcut
    have k2 := hZ.out.bk.cell 2
    have k3 := hZ.out.bk.cell 3
    have k4 := hZ.out.bk.cell 4
    simp at k2 k3 k4
    go_upto_region 5 with (fail)
    go_region_held3 (fun w' => w'.cell? ⟨q, 2, none⟩ = some (.int .i64 f) ∧ w'.cell? ⟨q, 3, none⟩ = some (.int .i64 n) ∧ w'.cell? ⟨q, 4, none⟩ = some (.string s)) (first | (simp [go_sem, *]; done) | go_keep) (first
      | (go_at_call 18; (with_reducible refine Calls.mono (hwd.out _ (by first | exact hZ.out.mark | exact hZ.out.draw.mark)) ?_); rintro e w1_ ⟨rfl, hb⟩; have hZ2 := Bx.bel (by first | exact hZ.out | exact hZ.out.draw) hb; replace hZ := Lib.hid hZ2; clear hZ2 hb; have kS : w1_.cell? ⟨q, 2, none⟩ = some (.int .i64 f) ∧ w1_.cell? ⟨q, 3, none⟩ = some (.int .i64 n) ∧ w1_.cell? ⟨q, 4, none⟩ = some (.string s) := ⟨hZ.out.bk.cell 2, hZ.out.bk.cell 3, hZ.out.bk.cell 4⟩)
      | (go_at_call 44; (with_reducible refine Calls.mono (hit.out _ (by first | exact hZ.out.mark | exact hZ.out.draw.mark)) ?_); rintro e w1_ ⟨rfl, hb⟩; have hZ2 := Bx.bel (by first | exact hZ.out | exact hZ.out.draw) hb; replace hZ := Lib.hid hZ2; clear hZ2 hb; have kS : w1_.cell? ⟨q, 2, none⟩ = some (.int .i64 f) ∧ w1_.cell? ⟨q, 3, none⟩ = some (.int .i64 n) ∧ w1_.cell? ⟨q, 4, none⟩ = some (.string s) := ⟨hZ.out.bk.cell 2, hZ.out.bk.cell 3, hZ.out.bk.cell 4⟩)
      | (go_at_call 46; (with_reducible refine Calls.mono (hqu.out _) ?_); rintro e w1_ ⟨rfl, hb⟩; have hZ2 := Bx.bel (by first | exact hZ.out | exact hZ.out.draw) hb; replace hZ := Lib.hid hZ2; clear hZ2 hb; have kS : w1_.cell? ⟨q, 2, none⟩ = some (.int .i64 f) ∧ w1_.cell? ⟨q, 3, none⟩ = some (.int .i64 n) ∧ w1_.cell? ⟨q, 4, none⟩ = some (.string s) := ⟨hZ.out.bk.cell 2, hZ.out.bk.cell 3, hZ.out.bk.cell 4⟩))
    go_wp2_with (fail)
    go_returns
    exact ⟨rfl, hZ.out.bl⟩
  · skip
    obtain rfl := hpt2 rfl
    clear hpt hpt2
    go_enter Tryd.func32, Tryd.ntmps32
    go_wp2_with (fail)
    rw [hX.out]
    refine (hip.out _ hZ.out.mark).mono ?_
    rintro e w1_ ⟨rfl, hb⟩
    have hZ2 := hZ.out.bel hb
    replace hZ := Lib.hid hZ2
    clear hZ2 hb k0 k1 hX
    go_upto_region 4 with (fail)
    replace hcq := Lib.hid hcq
    go_upto_region 4 with (fail)
    go_cut [5] from 11 to 36 (fun s5 wx => s5 = .bool OK ∧ Hid (Bx w q 34 #[  .int .i64 p, .bool true, .int .i64 f, .int .i64 n, .string s] wx))
    case first =>
      have k0 := hZ.out.bk.cell 0
      have k1 := hZ.out.bk.cell 1
      have k2 := hZ.out.bk.cell 2
      have k3 := hZ.out.bk.cell 3
      have k4 := hZ.out.bk.cell 4
      simp at k0 k1 k2 k3 k4
      go_wp2_with (fail)
      refine (hri.out _ hZ.out.mark).mono ?_
      rintro e w1_ ⟨rfl, hb⟩
      have hZ2 := hZ.out.bel hb
      replace hZ := Lib.hid hZ2
      clear hZ2 hb k0 k1 k2 k3 k4
      have k0 := hZ.out.bk.cell 0
      have k1 := hZ.out.bk.cell 1
      simp at k0 k1
      go_wp2_with (fail)
      all_goals
        go_meet
        refine ⟨?_, hZ⟩
        rw [← hcq.out]
        simp_all
        try omega
        try (by_cases hp0 : p = 0 <;> simp [hp0])
    case' rest =>
      obtain ⟨rfl, hcut⟩ := hcut
      clear hZ
      replace hZ := hcut
      clear hcut
    have k2 := hZ.out.bk.cell 2
    have k3 := hZ.out.bk.cell 3
    have k4 := hZ.out.bk.cell 4
    simp at k2 k3 k4
    go_upto_region 5 with (fail)
    go_region_held3 (fun w' => w'.cell? ⟨q, 2, none⟩ = some (.int .i64 f) ∧ w'.cell? ⟨q, 3, none⟩ = some (.int .i64 n) ∧ w'.cell? ⟨q, 4, none⟩ = some (.string s)) (first | (simp [go_sem, *]; done) | go_keep) (first
      | (go_at_call 18; (with_reducible refine Calls.mono (hwd.out _ (by first | exact hZ.out.mark | exact hZ.out.draw.mark)) ?_); rintro e w1_ ⟨rfl, hb⟩; have hZ2 := Bx.bel (by first | exact hZ.out | exact hZ.out.draw) hb; replace hZ := Lib.hid hZ2; clear hZ2 hb; have kS : w1_.cell? ⟨q, 2, none⟩ = some (.int .i64 f) ∧ w1_.cell? ⟨q, 3, none⟩ = some (.int .i64 n) ∧ w1_.cell? ⟨q, 4, none⟩ = some (.string s) := ⟨hZ.out.bk.cell 2, hZ.out.bk.cell 3, hZ.out.bk.cell 4⟩)
      | (go_at_call 44; (with_reducible refine Calls.mono (hit.out _ (by first | exact hZ.out.mark | exact hZ.out.draw.mark)) ?_); rintro e w1_ ⟨rfl, hb⟩; have hZ2 := Bx.bel (by first | exact hZ.out | exact hZ.out.draw) hb; replace hZ := Lib.hid hZ2; clear hZ2 hb; have kS : w1_.cell? ⟨q, 2, none⟩ = some (.int .i64 f) ∧ w1_.cell? ⟨q, 3, none⟩ = some (.int .i64 n) ∧ w1_.cell? ⟨q, 4, none⟩ = some (.string s) := ⟨hZ.out.bk.cell 2, hZ.out.bk.cell 3, hZ.out.bk.cell 4⟩)
      | (go_at_call 46; (with_reducible refine Calls.mono (hqu.out _) ?_); rintro e w1_ ⟨rfl, hb⟩; have hZ2 := Bx.bel (by first | exact hZ.out | exact hZ.out.draw) hb; replace hZ := Lib.hid hZ2; clear hZ2 hb; have kS : w1_.cell? ⟨q, 2, none⟩ = some (.int .i64 f) ∧ w1_.cell? ⟨q, 3, none⟩ = some (.int .i64 n) ∧ w1_.cell? ⟨q, 4, none⟩ = some (.string s) := ⟨hZ.out.bk.cell 2, hZ.out.bk.cell 3, hZ.out.bk.cell 4⟩))
    go_wp2_with (fail)
    go_returns
    exact ⟨rfl, hZ.out.bl⟩
end Go.Proofs.YtbhgjjicmbbjaaaDoor
