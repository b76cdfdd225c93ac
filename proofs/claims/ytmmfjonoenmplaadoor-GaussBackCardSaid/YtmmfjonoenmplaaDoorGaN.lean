import Derived.Test.YtmmfjonoenmplaaDoorGaM
namespace Go.Proofs.YtmmfjonoenmplaaDoor
open Go.RowKit Go.Extern.Stop Go.Stop Go.Extern
set_option linter.unusedVariables false
set_option linter.unusedSimpArgs false
/-! gauss.Turn -/
theorem i64_and3 (n : Int) : bits .and .i64 n 3 = n % 4 := by
  have h7 : (BitVec.ofInt 64 3).toNat = 2 ^ 2 - 1 := by decide
  have e : bits .and .i64 n 3 = IntKind.i64.wrap ((BitVec.ofInt 64 n &&& BitVec.ofInt 64 3).toNat : Int) := rfl
  rw [e, BitVec.toNat_and, h7, Nat.and_two_pow_sub_one_eq_mod, BitVec.toNat_ofInt, IntKind.wrap_i64]
  omega
@[go_sem] theorem run_store_cx {P : Program} {w : World} {a : Addr} {m : Mode} (k : FloatKind) (x y : Nat) : (store a (.complex k x y) m).run P w = stored P w a (.complex k x y) m := run_store P w a _ m rfl
def turnK : Nat → Int × Int → Int × Int
  | 0, a => a
  | k + 1, a => turnK k (rotZ a)
def turnZ (a : Int × Int) (n : Int) : Int × Int := turnK (n % 4).toNat a
theorem turn_form (a : Int × Int) (n : Int) : n % 4 = 0 ∧ turnZ a n = (a.1, a.2) ∨ n % 4 = 1 ∧ turnZ a n = (-a.2, a.1) ∨ n % 4 = 2 ∧ turnZ a n = (-a.1, -a.2) ∨ n % 4 = 3 ∧ turnZ a n = (a.2, -a.1) := by
  unfold turnZ
  rcases (by omega : n % 4 = 0 ∨ n % 4 = 1 ∨ n % 4 = 2 ∨ n % 4 = 3) with h | h | h | h
  all_goals (rw [h]; simp [turnK, rotZ])
theorem res_small (z : Int × Int) (h : Sm z 16777216) : toldV z.1 z.2 = .tuple #[cw z, .int .i64 0] := by
  unfold toldV
  unfold Sm at h
  rw [if_pos (by omega)]
  rfl
theorem below_drewN {n m : Nat} {w W : World} (h : Below n w W) : Below n w (W.drewN m) := h.trans ⟨rfl, rfl, rfl, Nat.le_refl _, fun _ _ => rfl⟩
theorem below_drew {n : Nat} {w W : World} (h : Below n w W) : Below n w W.drew := h.trans ⟨rfl, rfl, rfl, Nat.le_refl _, fun _ _ => rfl⟩
set_option maxRecDepth 100000 in
theorem turn_ok (x : Nat × Nat) (a : Int × Int) (n : Int) (hx : Nm x a) (ha : Sm a 16777216) (w : World) : Calls Tryd.prog 32 #[.complex .f64 x.1 x.2, .int .i64 n] w fun e w' => e = .returned (.tuple #[cw (turnZ a n), .int .i64 0]) ∧ Below w.heap.size w w' := by
  have hand := i64_and3 n
  have hrx := Lib.hid ((nm_rt hx).2 ha)
  have lx := nm_lt hx
  obtain ⟨x1, x2⟩ := x
  have has := Lib.hid (fun (w : World) (g : Nat) (c0 : Bk w g 28 #[.complex .f64 x1 x2]) => asked1 (x1, x2) w g (c0.cell 0) lx)
  clear lx
  simp only at hrx
  rcases turn_form a n with ⟨hn, ht⟩ | ⟨hn, ht⟩ | ⟨hn, ht⟩ | ⟨hn, ht⟩
  · skip
    rw [hn] at hand
    obtain ⟨⟨r1, r2⟩, hr, hrun⟩ := nm_mul (y := (4607182418800017408, 0)) (b := (1, 0)) hx ⟨by first | exact wd_zero | exact wd_pos1 | exact wd_neg1, by first | exact wd_zero | exact wd_pos1 | exact wd_neg1⟩ (sm_mono ha (by decide)) (by unfold Sm; decide) 28
    have hr2 : Nm (r1, r2) (turnZ a n) := by
      rw [ht]
      have e : (a.1 * 1 - a.2 * 0, a.1 * 0 + a.2 * 1) = (a.1, a.2) := by simp <;> omega
      simp only at hr
      rw [e] at hr
      exact hr
    have hs2 : Sm (turnZ a n) 16777216 := by
      rw [ht]
      unfold Sm at *
      simp only
      omega
    have htold := fun w => told_nil r1 r2 _ _ hr2.1 hr2.2 w
    rw [res_small _ hs2] at htold
    replace htold := Lib.hid htold
    obtain ⟨z, hz⟩ : ∃ z, turnZ a n = z := ⟨_, rfl⟩
    rw [hz] at htold ⊢
    simp only at hrun
    clear hr hr2 hs2 ht hz hx ha hn
    unfold cw at htold ⊢
    go_enter Tryd.func32, Tryd.ntmps32
    go_wp2_with (fail)
    have hB := (Below.refl w.heap.size w).alloc (Nat.le_refl _) (.cells #[.complex .f64 4607182418800017408 0, .complex .f64 0 4607182418800017408, .complex .f64 13830554455654793216 0, .complex .f64 0 13830554455654793216] 78)
    have hK := Bk.fresh w 78 #[.complex .f64 4607182418800017408 0, .complex .f64 0 4607182418800017408, .complex .f64 13830554455654793216 0, .complex .f64 0 13830554455654793216]
    obtain ⟨g, hg⟩ : ∃ g, w.heap.size = g := ⟨_, rfl⟩
    obtain ⟨X, hX⟩ : ∃ X, w.alloc (.cells #[.complex .f64 4607182418800017408 0, .complex .f64 0 4607182418800017408, .complex .f64 13830554455654793216 0, .complex .f64 0 13830554455654793216] 78) = X := ⟨_, rfl⟩
    rw [hX, hg] at hB hK ⊢
    have k0 := hK.cell 0
    simp at k0
    clear hX
    have hgX : g < X.heap.size := hK.lt
    have hKh := Lib.hid hK
    clear hK
    go_region_held3 (fun w' => w'.cell? ⟨g, 0, none⟩ = some (.complex .f64 4607182418800017408 0)) (first | (simp [go_sem, *]; done) | go_keep)
      (first
        | (go_at_call 47; (with_reducible refine Calls.mono (has.out _ _ (by first | exact (Bk.fresh _ _ _).draw | exact (Bk.fresh _ _ _))) ?_); rintro e w1_ ⟨v, rfl, hv, n1, hn_⟩; replace hn_ := hn_.symm; subst hn_; obtain rfl : v = .nilIface := (by rcases hv with h | h; exact h.2; exact absurd hrx.out h.1); clear hv; have kS := (show ((X.alloc (.cells #[.complex .f64 x1 x2] 28)).drew.drewN n1).cell? ⟨g, 0, none⟩ = some (.complex .f64 4607182418800017408 0) from ((hKh.out.past _).draw.draws n1).cell 0))
        | (go_at_call 51; (with_reducible refine Calls.mono (htold.out _) ?_); rintro e w1_ ⟨rfl, n2, hn_⟩; replace hn_ := hn_.symm; subst hn_))
    all_goals go_wp2_with (fail)
    all_goals go_returns
    all_goals exact ⟨rfl, by rw [hg]; exact below_drewN (hB.alloc (Nat.le_of_lt hgX) _)⟩
  · skip
    rw [hn] at hand
    obtain ⟨⟨r1, r2⟩, hr, hrun⟩ := nm_mul (y := (0, 4607182418800017408)) (b := (0, 1)) hx ⟨by first | exact wd_zero | exact wd_pos1 | exact wd_neg1, by first | exact wd_zero | exact wd_pos1 | exact wd_neg1⟩ (sm_mono ha (by decide)) (by unfold Sm; decide) 28
    have hr2 : Nm (r1, r2) (turnZ a n) := by
      rw [ht]
      have e : (a.1 * 0 - a.2 * 1, a.1 * 1 + a.2 * 0) = (-a.2, a.1) := by simp <;> omega
      simp only at hr
      rw [e] at hr
      exact hr
    have hs2 : Sm (turnZ a n) 16777216 := by
      rw [ht]
      unfold Sm at *
      simp only
      omega
    have htold := fun w => told_nil r1 r2 _ _ hr2.1 hr2.2 w
    rw [res_small _ hs2] at htold
    replace htold := Lib.hid htold
    obtain ⟨z, hz⟩ : ∃ z, turnZ a n = z := ⟨_, rfl⟩
    rw [hz] at htold ⊢
    simp only at hrun
    clear hr hr2 hs2 ht hz hx ha hn
    unfold cw at htold ⊢
    go_enter Tryd.func32, Tryd.ntmps32
    go_wp2_with (fail)
    have hB := (Below.refl w.heap.size w).alloc (Nat.le_refl _) (.cells #[.complex .f64 4607182418800017408 0, .complex .f64 0 4607182418800017408, .complex .f64 13830554455654793216 0, .complex .f64 0 13830554455654793216] 78)
    have hK := Bk.fresh w 78 #[.complex .f64 4607182418800017408 0, .complex .f64 0 4607182418800017408, .complex .f64 13830554455654793216 0, .complex .f64 0 13830554455654793216]
    obtain ⟨g, hg⟩ : ∃ g, w.heap.size = g := ⟨_, rfl⟩
    obtain ⟨X, hX⟩ : ∃ X, w.alloc (.cells #[.complex .f64 4607182418800017408 0, .complex .f64 0 4607182418800017408, .complex .f64 13830554455654793216 0, .complex .f64 0 13830554455654793216] 78) = X := ⟨_, rfl⟩
    rw [hX, hg] at hB hK ⊢
    have k0 := hK.cell 1
    simp at k0
    clear hX
    have hgX : g < X.heap.size := hK.lt
    have hKh := Lib.hid hK
    clear hK
    go_region_held3 (fun w' => w'.cell? ⟨g, 1, none⟩ = some (.complex .f64 0 4607182418800017408)) (first | (simp [go_sem, *]; done) | go_keep)
      (first
        | (go_at_call 47; (with_reducible refine Calls.mono (has.out _ _ (by first | exact (Bk.fresh _ _ _).draw | exact (Bk.fresh _ _ _))) ?_); rintro e w1_ ⟨v, rfl, hv, n1, hn_⟩; replace hn_ := hn_.symm; subst hn_; obtain rfl : v = .nilIface := (by rcases hv with h | h; exact h.2; exact absurd hrx.out h.1); clear hv; have kS := (show ((X.alloc (.cells #[.complex .f64 x1 x2] 28)).drew.drewN n1).cell? ⟨g, 1, none⟩ = some (.complex .f64 0 4607182418800017408) from ((hKh.out.past _).draw.draws n1).cell 1))
        | (go_at_call 51; (with_reducible refine Calls.mono (htold.out _) ?_); rintro e w1_ ⟨rfl, n2, hn_⟩; replace hn_ := hn_.symm; subst hn_))
    all_goals go_wp2_with (fail)
    all_goals go_returns
    all_goals exact ⟨rfl, by rw [hg]; exact below_drewN (hB.alloc (Nat.le_of_lt hgX) _)⟩
  · skip
    rw [hn] at hand
    obtain ⟨⟨r1, r2⟩, hr, hrun⟩ := nm_mul (y := (13830554455654793216, 0)) (b := (-1, 0)) hx ⟨by first | exact wd_zero | exact wd_pos1 | exact wd_neg1, by first | exact wd_zero | exact wd_pos1 | exact wd_neg1⟩ (sm_mono ha (by decide)) (by unfold Sm; decide) 28
    have hr2 : Nm (r1, r2) (turnZ a n) := by
      rw [ht]
      have e : (a.1 * -1 - a.2 * 0, a.1 * 0 + a.2 * -1) = (-a.1, -a.2) := by simp <;> omega
      simp only at hr
      rw [e] at hr
      exact hr
    have hs2 : Sm (turnZ a n) 16777216 := by
      rw [ht]
      unfold Sm at *
      simp only
      omega
    have htold := fun w => told_nil r1 r2 _ _ hr2.1 hr2.2 w
    rw [res_small _ hs2] at htold
    replace htold := Lib.hid htold
    obtain ⟨z, hz⟩ : ∃ z, turnZ a n = z := ⟨_, rfl⟩
    rw [hz] at htold ⊢
    simp only at hrun
    clear hr hr2 hs2 ht hz hx ha hn
    unfold cw at htold ⊢
    go_enter Tryd.func32, Tryd.ntmps32
    go_wp2_with (fail)
    have hB := (Below.refl w.heap.size w).alloc (Nat.le_refl _) (.cells #[.complex .f64 4607182418800017408 0, .complex .f64 0 4607182418800017408, .complex .f64 13830554455654793216 0, .complex .f64 0 13830554455654793216] 78)
    have hK := Bk.fresh w 78 #[.complex .f64 4607182418800017408 0, .complex .f64 0 4607182418800017408, .complex .f64 13830554455654793216 0, .complex .f64 0 13830554455654793216]
    obtain ⟨g, hg⟩ : ∃ g, w.heap.size = g := ⟨_, rfl⟩
    obtain ⟨X, hX⟩ : ∃ X, w.alloc (.cells #[.complex .f64 4607182418800017408 0, .complex .f64 0 4607182418800017408, .complex .f64 13830554455654793216 0, .complex .f64 0 13830554455654793216] 78) = X := ⟨_, rfl⟩
    rw [hX, hg] at hB hK ⊢
    have k0 := hK.cell 2
    simp at k0
    clear hX
    have hgX : g < X.heap.size := hK.lt
    have hKh := Lib.hid hK
    clear hK
    go_region_held3 (fun w' => w'.cell? ⟨g, 2, none⟩ = some (.complex .f64 13830554455654793216 0)) (first | (simp [go_sem, *]; done) | go_keep)
      (first
        | (go_at_call 47; (with_reducible refine Calls.mono (has.out _ _ (by first | exact (Bk.fresh _ _ _).draw | exact (Bk.fresh _ _ _))) ?_); rintro e w1_ ⟨v, rfl, hv, n1, hn_⟩; replace hn_ := hn_.symm; subst hn_; obtain rfl : v = .nilIface := (by rcases hv with h | h; exact h.2; exact absurd hrx.out h.1); clear hv; have kS := (show ((X.alloc (.cells #[.complex .f64 x1 x2] 28)).drew.drewN n1).cell? ⟨g, 2, none⟩ = some (.complex .f64 13830554455654793216 0) from ((hKh.out.past _).draw.draws n1).cell 2))
        | (go_at_call 51; (with_reducible refine Calls.mono (htold.out _) ?_); rintro e w1_ ⟨rfl, n2, hn_⟩; replace hn_ := hn_.symm; subst hn_))
    all_goals go_wp2_with (fail)
    all_goals go_returns
    all_goals exact ⟨rfl, by rw [hg]; exact below_drewN (hB.alloc (Nat.le_of_lt hgX) _)⟩
  · skip
    rw [hn] at hand
    obtain ⟨⟨r1, r2⟩, hr, hrun⟩ := nm_mul (y := (0, 13830554455654793216)) (b := (0, -1)) hx ⟨by first | exact wd_zero | exact wd_pos1 | exact wd_neg1, by first | exact wd_zero | exact wd_pos1 | exact wd_neg1⟩ (sm_mono ha (by decide)) (by unfold Sm; decide) 28
    have hr2 : Nm (r1, r2) (turnZ a n) := by
      rw [ht]
      have e : (a.1 * 0 - a.2 * -1, a.1 * -1 + a.2 * 0) = (a.2, -a.1) := by simp <;> omega
      simp only at hr
      rw [e] at hr
      exact hr
    have hs2 : Sm (turnZ a n) 16777216 := by
      rw [ht]
      unfold Sm at *
      simp only
      omega
    have htold := fun w => told_nil r1 r2 _ _ hr2.1 hr2.2 w
    rw [res_small _ hs2] at htold
    replace htold := Lib.hid htold
    obtain ⟨z, hz⟩ : ∃ z, turnZ a n = z := ⟨_, rfl⟩
    rw [hz] at htold ⊢
    simp only at hrun
    clear hr hr2 hs2 ht hz hx ha hn
    unfold cw at htold ⊢
    go_enter Tryd.func32, Tryd.ntmps32
    go_wp2_with (fail)
    have hB := (Below.refl w.heap.size w).alloc (Nat.le_refl _) (.cells #[.complex .f64 4607182418800017408 0, .complex .f64 0 4607182418800017408, .complex .f64 13830554455654793216 0, .complex .f64 0 13830554455654793216] 78)
    have hK := Bk.fresh w 78 #[.complex .f64 4607182418800017408 0, .complex .f64 0 4607182418800017408, .complex .f64 13830554455654793216 0, .complex .f64 0 13830554455654793216]
    obtain ⟨g, hg⟩ : ∃ g, w.heap.size = g := ⟨_, rfl⟩
    obtain ⟨X, hX⟩ : ∃ X, w.alloc (.cells #[.complex .f64 4607182418800017408 0, .complex .f64 0 4607182418800017408, .complex .f64 13830554455654793216 0, .complex .f64 0 13830554455654793216] 78) = X := ⟨_, rfl⟩
    rw [hX, hg] at hB hK ⊢
    have k0 := hK.cell 3
    simp at k0
    clear hX
    have hgX : g < X.heap.size := hK.lt
    have hKh := Lib.hid hK
    clear hK
    go_region_held3 (fun w' => w'.cell? ⟨g, 3, none⟩ = some (.complex .f64 0 13830554455654793216)) (first | (simp [go_sem, *]; done) | go_keep)
      (first
        | (go_at_call 47; (with_reducible refine Calls.mono (has.out _ _ (by first | exact (Bk.fresh _ _ _).draw | exact (Bk.fresh _ _ _))) ?_); rintro e w1_ ⟨v, rfl, hv, n1, hn_⟩; replace hn_ := hn_.symm; subst hn_; obtain rfl : v = .nilIface := (by rcases hv with h | h; exact h.2; exact absurd hrx.out h.1); clear hv; have kS := (show ((X.alloc (.cells #[.complex .f64 x1 x2] 28)).drew.drewN n1).cell? ⟨g, 3, none⟩ = some (.complex .f64 0 13830554455654793216) from ((hKh.out.past _).draw.draws n1).cell 3))
        | (go_at_call 51; (with_reducible refine Calls.mono (htold.out _) ?_); rintro e w1_ ⟨rfl, n2, hn_⟩; replace hn_ := hn_.symm; subst hn_))
    all_goals go_wp2_with (fail)
    all_goals go_returns
    all_goals exact ⟨rfl, by rw [hg]; exact below_drewN (hB.alloc (Nat.le_of_lt hgX) _)⟩
end Go.Proofs.YtmmfjonoenmplaaDoor
