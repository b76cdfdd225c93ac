import Derived.Test.YtmmfjonoenmplaaDoorGaN
namespace Go.Proofs.YtmmfjonoenmplaaDoor
open Go.RowKit Go.Extern.Stop Go.Stop Go.Extern
set_option linter.unusedVariables false
set_option linter.unusedSimpArgs false
/-! gauss.Turn of no right number; the walk of GaussTurns -/
set_option maxRecDepth 100000 in
set_option maxHeartbeats 4000000 in
theorem turn_bad (x : Nat × Nat) (lx : x.1 < 18446744073709551616 ∧ x.2 < 18446744073709551616) (hno : ¬ (Rt x.1 ∧ Rt x.2)) (n : Int) (w : World) : Calls Tryd.prog 32 #[.complex .f64 x.1 x.2, .int .i64 n] w fun e w' => e = .returned bad ∧ Below w.heap.size w w' := by
  have hand := i64_and3 n
  obtain ⟨x1, x2⟩ := x
  have has := Lib.hid (fun (w : World) (g : Nat) (c0 : Bk w g 28 #[.complex .f64 x1 x2]) => (asked1 (x1, x2) w g (c0.cell 0) lx).mono (R' := fun e w' => e = .returned errArg ∧ ∃ n, w' = w.drewN n) (fun e w' ⟨v, he, hv, hn⟩ => ⟨by
    rcases hv with h | h
    · exact absurd h.1 hno
    · rw [he, h.2], hn⟩))
  have hta := Lib.hid (fun v w => told_arg v w)
  clear lx hno
  simp only
  rcases (by omega : n % 4 = 0 ∨ n % 4 = 1 ∨ n % 4 = 2 ∨ n % 4 = 3) with hn | hn | hn | hn
  · skip
    rw [hn] at hand
    obtain ⟨f, hrun⟩ := cmul_fun 28 x1 x2 4607182418800017408 0
    clear hn
    unfold errArg at has hta
    go_enter Tryd.func32, Tryd.ntmps32
    go_wp2_with (fail)
    have hB := (Below.refl w.heap.size w).alloc (Nat.le_refl _) (.cells #[.complex .f64 4607182418800017408 0, .complex .f64 0 4607182418800017408, .complex .f64 13830554455654793216 0, .complex .f64 0 13830554455654793216] 78)
    have hK := Bk.fresh w 78 #[.complex .f64 4607182418800017408 0, .complex .f64 0 4607182418800017408, .complex .f64 13830554455654793216 0, .complex .f64 0 13830554455654793216]
    obtain ⟨g, hg⟩ : ∃ g, w.heap.size = g := ⟨_, rfl⟩
    obtain ⟨X, hX⟩ : ∃ X, w.alloc (.cells #[.complex .f64 4607182418800017408 0, .complex .f64 0 4607182418800017408, .complex .f64 13830554455654793216 0, .complex .f64 0 13830554455654793216] 78) = X := ⟨_, rfl⟩
    rw [hX, hg] at hB hK ⊢
    have k0 := hK.cell 0
    simp at k0
    clear hX
    have hgX : g < X.heap.size := hK.lt
    have b1 : ∀ k, Bk ((X.drewN k).alloc (.cells #[.complex .f64 x1 x2] 28)) X.heap.size 28 #[.complex .f64 x1 x2] := fun k => Bk.fresh (X.drewN k) _ _
    have b2 : Bk (X.drew.alloc (.cells #[.complex .f64 x1 x2] 28)) X.heap.size 28 #[.complex .f64 x1 x2] := Bk.fresh X.drew _ _
    clear hK
    go_region_held (fun w' => w'.cell? ⟨g, 0, none⟩ = some (.complex .f64 4607182418800017408 0)) (first | (simp [go_sem, *]; done) | go_keep)
      (first
        | (go_at_call 47; (with_reducible refine Calls.mono (has.out _ _ (by first | exact (Bk.fresh _ _ _).draw | exact Bk.fresh _ _ _ | exact ((Bk.fresh _ _ _).draws _).draw | exact (Bk.fresh _ _ _).draws _ | exact ((Bk.fresh _ _ _).draw).draws _ | exact b1 _ | exact (b1 _).draws _ | exact (b1 _).draw | exact b2 | exact b2.draws _)) ?_); rintro e w1_ ⟨rfl, n1, hn_⟩; replace hn_ := hn_.symm; subst hn_)
        | (go_at_call 51; (with_reducible refine Calls.mono (hta.out _ _) ?_); rintro e w1_ ⟨rfl, hn_⟩; replace hn_ := hn_.symm; subst hn_))
    all_goals go_wp2_with (fail)
    all_goals go_returns
    all_goals exact ⟨rfl, by rw [hg]; first | exact below_drewN (hB.alloc (Nat.le_of_lt hgX) _) | exact below_drewN ((below_drewN hB).alloc (Nat.le_of_lt hgX) _)⟩
  · skip
    rw [hn] at hand
    obtain ⟨f, hrun⟩ := cmul_fun 28 x1 x2 0 4607182418800017408
    clear hn
    unfold errArg at has hta
    go_enter Tryd.func32, Tryd.ntmps32
    go_wp2_with (fail)
    have hB := (Below.refl w.heap.size w).alloc (Nat.le_refl _) (.cells #[.complex .f64 4607182418800017408 0, .complex .f64 0 4607182418800017408, .complex .f64 13830554455654793216 0, .complex .f64 0 13830554455654793216] 78)
    have hK := Bk.fresh w 78 #[.complex .f64 4607182418800017408 0, .complex .f64 0 4607182418800017408, .complex .f64 13830554455654793216 0, .complex .f64 0 13830554455654793216]
    obtain ⟨g, hg⟩ : ∃ g, w.heap.size = g := ⟨_, rfl⟩
    obtain ⟨X, hX⟩ : ∃ X, w.alloc (.cells #[.complex .f64 4607182418800017408 0, .complex .f64 0 4607182418800017408, .complex .f64 13830554455654793216 0, .complex .f64 0 13830554455654793216] 78) = X := ⟨_, rfl⟩
    rw [hX, hg] at hB hK ⊢
    have k0 := hK.cell 1
    simp at k0
    clear hX
    have hgX : g < X.heap.size := hK.lt
    have b1 : ∀ k, Bk ((X.drewN k).alloc (.cells #[.complex .f64 x1 x2] 28)) X.heap.size 28 #[.complex .f64 x1 x2] := fun k => Bk.fresh (X.drewN k) _ _
    have b2 : Bk (X.drew.alloc (.cells #[.complex .f64 x1 x2] 28)) X.heap.size 28 #[.complex .f64 x1 x2] := Bk.fresh X.drew _ _
    clear hK
    go_region_held (fun w' => w'.cell? ⟨g, 1, none⟩ = some (.complex .f64 0 4607182418800017408)) (first | (simp [go_sem, *]; done) | go_keep)
      (first
        | (go_at_call 47; (with_reducible refine Calls.mono (has.out _ _ (by first | exact (Bk.fresh _ _ _).draw | exact Bk.fresh _ _ _ | exact ((Bk.fresh _ _ _).draws _).draw | exact (Bk.fresh _ _ _).draws _ | exact ((Bk.fresh _ _ _).draw).draws _ | exact b1 _ | exact (b1 _).draws _ | exact (b1 _).draw | exact b2 | exact b2.draws _)) ?_); rintro e w1_ ⟨rfl, n1, hn_⟩; replace hn_ := hn_.symm; subst hn_)
        | (go_at_call 51; (with_reducible refine Calls.mono (hta.out _ _) ?_); rintro e w1_ ⟨rfl, hn_⟩; replace hn_ := hn_.symm; subst hn_))
    all_goals go_wp2_with (fail)
    all_goals go_returns
    all_goals exact ⟨rfl, by rw [hg]; first | exact below_drewN (hB.alloc (Nat.le_of_lt hgX) _) | exact below_drewN ((below_drewN hB).alloc (Nat.le_of_lt hgX) _)⟩
  · skip
    rw [hn] at hand
    obtain ⟨f, hrun⟩ := cmul_fun 28 x1 x2 13830554455654793216 0
    clear hn
    unfold errArg at has hta
    go_enter Tryd.func32, Tryd.ntmps32
    go_wp2_with (fail)
    have hB := (Below.refl w.heap.size w).alloc (Nat.le_refl _) (.cells #[.complex .f64 4607182418800017408 0, .complex .f64 0 4607182418800017408, .complex .f64 13830554455654793216 0, .complex .f64 0 13830554455654793216] 78)
    have hK := Bk.fresh w 78 #[.complex .f64 4607182418800017408 0, .complex .f64 0 4607182418800017408, .complex .f64 13830554455654793216 0, .complex .f64 0 13830554455654793216]
    obtain ⟨g, hg⟩ : ∃ g, w.heap.size = g := ⟨_, rfl⟩
    obtain ⟨X, hX⟩ : ∃ X, w.alloc (.cells #[.complex .f64 4607182418800017408 0, .complex .f64 0 4607182418800017408, .complex .f64 13830554455654793216 0, .complex .f64 0 13830554455654793216] 78) = X := ⟨_, rfl⟩
    rw [hX, hg] at hB hK ⊢
    have k0 := hK.cell 2
    simp at k0
    clear hX
    have hgX : g < X.heap.size := hK.lt
    have b1 : ∀ k, Bk ((X.drewN k).alloc (.cells #[.complex .f64 x1 x2] 28)) X.heap.size 28 #[.complex .f64 x1 x2] := fun k => Bk.fresh (X.drewN k) _ _
    have b2 : Bk (X.drew.alloc (.cells #[.complex .f64 x1 x2] 28)) X.heap.size 28 #[.complex .f64 x1 x2] := Bk.fresh X.drew _ _
    clear hK
    go_region_held (fun w' => w'.cell? ⟨g, 2, none⟩ = some (.complex .f64 13830554455654793216 0)) (first | (simp [go_sem, *]; done) | go_keep)
      (first
        | (go_at_call 47; (with_reducible refine Calls.mono (has.out _ _ (by first | exact (Bk.fresh _ _ _).draw | exact Bk.fresh _ _ _ | exact ((Bk.fresh _ _ _).draws _).draw | exact (Bk.fresh _ _ _).draws _ | exact ((Bk.fresh _ _ _).draw).draws _ | exact b1 _ | exact (b1 _).draws _ | exact (b1 _).draw | exact b2 | exact b2.draws _)) ?_); rintro e w1_ ⟨rfl, n1, hn_⟩; replace hn_ := hn_.symm; subst hn_)
        | (go_at_call 51; (with_reducible refine Calls.mono (hta.out _ _) ?_); rintro e w1_ ⟨rfl, hn_⟩; replace hn_ := hn_.symm; subst hn_))
    all_goals go_wp2_with (fail)
    all_goals go_returns
    all_goals exact ⟨rfl, by rw [hg]; first | exact below_drewN (hB.alloc (Nat.le_of_lt hgX) _) | exact below_drewN ((below_drewN hB).alloc (Nat.le_of_lt hgX) _)⟩
  · skip
    rw [hn] at hand
    obtain ⟨f, hrun⟩ := cmul_fun 28 x1 x2 0 13830554455654793216
    clear hn
    unfold errArg at has hta
    go_enter Tryd.func32, Tryd.ntmps32
    go_wp2_with (fail)
    have hB := (Below.refl w.heap.size w).alloc (Nat.le_refl _) (.cells #[.complex .f64 4607182418800017408 0, .complex .f64 0 4607182418800017408, .complex .f64 13830554455654793216 0, .complex .f64 0 13830554455654793216] 78)
    have hK := Bk.fresh w 78 #[.complex .f64 4607182418800017408 0, .complex .f64 0 4607182418800017408, .complex .f64 13830554455654793216 0, .complex .f64 0 13830554455654793216]
    obtain ⟨g, hg⟩ : ∃ g, w.heap.size = g := ⟨_, rfl⟩
    obtain ⟨X, hX⟩ : ∃ X, w.alloc (.cells #[.complex .f64 4607182418800017408 0, .complex .f64 0 4607182418800017408, .complex .f64 13830554455654793216 0, .complex .f64 0 13830554455654793216] 78) = X := ⟨_, rfl⟩
    rw [hX, hg] at hB hK ⊢
    have k0 := hK.cell 3
    simp at k0
    clear hX
    have hgX : g < X.heap.size := hK.lt
    have b1 : ∀ k, Bk ((X.drewN k).alloc (.cells #[.complex .f64 x1 x2] 28)) X.heap.size 28 #[.complex .f64 x1 x2] := fun k => Bk.fresh (X.drewN k) _ _
    have b2 : Bk (X.drew.alloc (.cells #[.complex .f64 x1 x2] 28)) X.heap.size 28 #[.complex .f64 x1 x2] := Bk.fresh X.drew _ _
    clear hK
    go_region_held (fun w' => w'.cell? ⟨g, 3, none⟩ = some (.complex .f64 0 13830554455654793216)) (first | (simp [go_sem, *]; done) | go_keep)
      (first
        | (go_at_call 47; (with_reducible refine Calls.mono (has.out _ _ (by first | exact (Bk.fresh _ _ _).draw | exact Bk.fresh _ _ _ | exact ((Bk.fresh _ _ _).draws _).draw | exact (Bk.fresh _ _ _).draws _ | exact ((Bk.fresh _ _ _).draw).draws _ | exact b1 _ | exact (b1 _).draws _ | exact (b1 _).draw | exact b2 | exact b2.draws _)) ?_); rintro e w1_ ⟨rfl, n1, hn_⟩; replace hn_ := hn_.symm; subst hn_)
        | (go_at_call 51; (with_reducible refine Calls.mono (hta.out _ _) ?_); rintro e w1_ ⟨rfl, hn_⟩; replace hn_ := hn_.symm; subst hn_))
    all_goals go_wp2_with (fail)
    all_goals go_returns
    all_goals exact ⟨rfl, by rw [hg]; first | exact below_drewN (hB.alloc (Nat.le_of_lt hgX) _) | exact below_drewN ((below_drewN hB).alloc (Nat.le_of_lt hgX) _)⟩
end Go.Proofs.YtmmfjonoenmplaaDoor
