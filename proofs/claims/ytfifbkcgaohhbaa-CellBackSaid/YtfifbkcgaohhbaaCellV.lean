import Derived.Test.YtfifbkcgaohhbaaCellU
namespace Go.Proofs.Ytfifbkcgaohhbaa
open Go.RowKit
set_option linter.unusedVariables false
set_option linter.unusedSimpArgs false
theorem of_at8 (b0 b1 b2 b3 b4 b5 b6 b7 : Int) (w : World) (h0 : isB b0) (h1 : isB b1) (h2 : isB b2) (h3 : isB b3) (h4 : isB b4) (h5 : isB b5) (h6 : isB b6) (h7 : isB b7) :
    Calls Try.prog 31 #[.agg #[.int .u8 b0, .int .u8 b1, .int .u8 b2, .int .u8 b3, .int .u8 b4, .int .u8 b5, .int .u8 b6, .int .u8 b7]] w fun e w' => e = .returned (.int .i64 (hor b0 b1 b2 b3 b4 b5 b6 b7)) ∧ Below w.heap.size w w' := of_at b0 b1 b2 b3 b4 b5 b6 b7 w h0 h1 h2 h3 h4 h5 h6 h7
theorem bytes_hor (b0 b1 b2 b3 b4 b5 b6 b7 : Int) (w : World) (h0 : isB b0) (h1 : isB b1) (h2 : isB b2) (h3 : isB b3) (h4 : isB b4) (h5 : isB b5) (h6 : isB b6) (h7 : isB b7) :
    Calls Try.prog 29 #[.int .i64 (hor b0 b1 b2 b3 b4 b5 b6 b7)] w fun e w' => e = .returned (.agg #[.int .u8 b0, .int .u8 b1, .int .u8 b2, .int .u8 b3, .int .u8 b4, .int .u8 b5, .int .u8 b6, .int .u8 b7]) ∧ Below w.heap.size w w' := by
  have h := bytes_any (hor b0 b1 b2 b3 b4 b5 b6 b7) w
  rw [back_bytes h0 h1 h2 h3 h4 h5 h6 h7] at h
  exact h
theorem of_back (a : Int) (w : World) (h : isI a) :
    Calls Try.prog 31 #[bytesV a] w fun e w' => e = .returned (.int .i64 a) ∧ Below w.heap.size w w' := by
  have k := of_at _ _ _ _ _ _ _ _ w (byte_is a) (byte_is (a / 256)) (byte_is (a / 65536)) (byte_is (a / 16777216)) (byte_is (a / 4294967296)) (byte_is (a / 1099511627776)) (byte_is (a / 281474976710656)) (byte_is (a / 72057594037927936))
  rw [back_of h] at k
  exact k
theorem ub (a b : Int) (w : World) (ha : isI a) (hb : ¬ b = 0) (hb2 : isI b) :
    Calls Try.prog 33 #[.agg #[.int .i64 (wrap64 (lo64 (IntKind.u64.wrap a) (IntKind.u64.wrap b))), .int .i64 (wrap64 (hi64 (IntKind.u64.wrap a) (IntKind.u64.wrap b)))], .int .i64 b] w fun e w' => e = .returned (.tuple #[.int .i64 a, .int .i64 0, .int .i64 0]) ∧ Below w.heap.size w w' := by
  obtain ⟨e1, e2, e3⟩ := uback ha hb hb2
  have h := udivide_any (wrap64 (lo64 (IntKind.u64.wrap a) (IntKind.u64.wrap b))) (wrap64 (hi64 (IntKind.u64.wrap a) (IntKind.u64.wrap b))) b w
  rw [e1, e2, e3] at h
  exact h
theorem sb (a b : Int) (w : World) (ha : isI a) (hb : ¬ b = 0) (hb2 : isI b) :
    Calls Try.prog 37 #[.agg #[.int .i64 (wrap64 (lo64 (IntKind.u64.wrap a) (IntKind.u64.wrap b))), .int .i64 (tHi a b)], .int .i64 b] w fun e w' => e = .returned (.tuple #[.int .i64 a, .int .i64 0, .int .i64 0]) ∧ Below w.heap.size w w' := by
  obtain ⟨e1, e2, e3⟩ := sback ha hb hb2
  have h := sdivide_any (wrap64 (lo64 (IntKind.u64.wrap a) (IntKind.u64.wrap b))) (tHi a b) b w
  rw [e1, e2, e3] at h
  exact h
theorem fb (a b : Int) (w : World) (ha : isI a) (hb : ¬ b = 0) (hb2 : isI b) :
    Calls Try.prog 35 #[.agg #[.int .i64 (wrap64 (lo64 (IntKind.u64.wrap a) (IntKind.u64.wrap b))), .int .i64 (tHi a b)], .int .i64 b] w fun e w' => e = .returned (.tuple #[.int .i64 a, .int .i64 0, .int .i64 0]) ∧ Below w.heap.size w w' := by
  obtain ⟨e1, e2, e3⟩ := sback ha hb hb2
  have h := fdivide_any (wrap64 (lo64 (IntKind.u64.wrap a) (IntKind.u64.wrap b))) (tHi a b) b w
  have e4 : down 0 b = false := by unfold down; simp
  unfold fQ fR fF at h
  rw [e1, e2, e3, e4] at h
  simpa using h
set_option maxRecDepth 100000 in
set_option maxHeartbeats 4000000 in
theorem walk_back (a b b0 b1 b2 b3 b4 b5 b6 b7 : Int) (ha : (Lit.int .i64 a).wf = true) (hb : (Lit.int .i64 b).wf = true) (h0 : isB b0) (h1 : isB b1) (h2 : isB b2) (h3 : isB b3) (h4 : isB b4) (h5 : isB b5) (h6 : isB b6) (h7 : isB b7) (w : World) :
    Calls Try.prog 9 #[.int .i64 a, .int .i64 b, .agg #[.int .u8 b0, .int .u8 b1, .int .u8 b2, .int .u8 b3, .int .u8 b4, .int .u8 b5, .int .u8 b6, .int .u8 b7]] w fun e w' => e = .returned (.bool true) ∧ Below w.heap.size w w' := by
  have HA := isI_of ha
  have HB := isI_of hb
  have hq := eqArr b0 b1 b2 b3 b4 b5 b6 b7
  unfold arr8 at hq
  clear ha hb
  go_enter Try.func9, Try.ntmps9
  go_wp2_with (fail)
  refine (shown_any _).mono ?_
  rintro e w0 ⟨rfl, hb⟩
  have c0 : w0.cell? ⟨w.heap.size, 0, none⟩ = some (.int .u8 b0) := carry hb (by simp) (by simp [go_sem])
  have c1 : w0.cell? ⟨w.heap.size, 1, none⟩ = some (.int .u8 b1) := carry hb (by simp) (by simp [go_sem])
  have c2 : w0.cell? ⟨w.heap.size, 2, none⟩ = some (.int .u8 b2) := carry hb (by simp) (by simp [go_sem])
  have c3 : w0.cell? ⟨w.heap.size, 3, none⟩ = some (.int .u8 b3) := carry hb (by simp) (by simp [go_sem])
  have c4 : w0.cell? ⟨w.heap.size, 4, none⟩ = some (.int .u8 b4) := carry hb (by simp) (by simp [go_sem])
  have c5 : w0.cell? ⟨w.heap.size, 5, none⟩ = some (.int .u8 b5) := carry hb (by simp) (by simp [go_sem])
  have c6 : w0.cell? ⟨w.heap.size, 6, none⟩ = some (.int .u8 b6) := carry hb (by simp) (by simp [go_sem])
  have c7 : w0.cell? ⟨w.heap.size, 7, none⟩ = some (.int .u8 b7) := carry hb (by simp) (by simp [go_sem])
  have hB : Below w.heap.size w w0 := ((Below.refl _ _).alloc (Nat.le_refl _) _).trans (hb.mono (by simp))
  have hz : w.heap.size < w0.heap.size := bsize hb (by simp)
  clear hb
  go_wp2_with (fail)
  go_region_held3 (fun w' => w'.cell? ⟨w.heap.size, 0, none⟩ = some (.int .u8 b0) ∧ w'.cell? ⟨w.heap.size, 1, none⟩ = some (.int .u8 b1) ∧ w'.cell? ⟨w.heap.size, 2, none⟩ = some (.int .u8 b2) ∧ w'.cell? ⟨w.heap.size, 3, none⟩ = some (.int .u8 b3) ∧ w'.cell? ⟨w.heap.size, 4, none⟩ = some (.int .u8 b4) ∧ w'.cell? ⟨w.heap.size, 5, none⟩ = some (.int .u8 b5) ∧ w'.cell? ⟨w.heap.size, 6, none⟩ = some (.int .u8 b6) ∧ w'.cell? ⟨w.heap.size, 7, none⟩ = some (.int .u8 b7)) ((simp [go_sem, *]))
    (first
      | (go_at_call 31; (with_reducible refine (of_at8 b0 b1 b2 b3 b4 b5 b6 b7 _ h0 h1 h2 h3 h4 h5 h6 h7).mono ?_); rintro e w1 ⟨rfl, hb1⟩; have hz1 : w.heap.size < w1.heap.size := (by have := hb1.size; (try simp only [World.size_drew] at this); omega); have hB1 : Below w.heap.size w w1 := Below.trans (by first | assumption | (refine Below.drew ?_; assumption)) (hb1.mono (by first | omega | (simp only [World.size_drew]; omega))); have kS : w1.cell? ⟨w.heap.size, 0, none⟩ = some (.int .u8 b0) ∧ w1.cell? ⟨w.heap.size, 1, none⟩ = some (.int .u8 b1) ∧ w1.cell? ⟨w.heap.size, 2, none⟩ = some (.int .u8 b2) ∧ w1.cell? ⟨w.heap.size, 3, none⟩ = some (.int .u8 b3) ∧ w1.cell? ⟨w.heap.size, 4, none⟩ = some (.int .u8 b4) ∧ w1.cell? ⟨w.heap.size, 5, none⟩ = some (.int .u8 b5) ∧ w1.cell? ⟨w.heap.size, 6, none⟩ = some (.int .u8 b6) ∧ w1.cell? ⟨w.heap.size, 7, none⟩ = some (.int .u8 b7) := by (refine ⟨?_, ?_, ?_, ?_, ?_, ?_, ?_, ?_⟩ <;> (refine carry hb1 (by first | omega | (simp only [World.size_drew]; omega)) ?_; simp [go_sem, *])))
      | (go_at_call 31; (with_reducible refine (of_back a _ HA).mono ?_); rintro e w1 ⟨rfl, hb1⟩; have hz1 : w.heap.size < w1.heap.size := (by have := hb1.size; (try simp only [World.size_drew] at this); omega); have hB1 : Below w.heap.size w w1 := Below.trans (by first | assumption | (refine Below.drew ?_; assumption)) (hb1.mono (by first | omega | (simp only [World.size_drew]; omega))); have kS : w1.cell? ⟨w.heap.size, 0, none⟩ = some (.int .u8 b0) ∧ w1.cell? ⟨w.heap.size, 1, none⟩ = some (.int .u8 b1) ∧ w1.cell? ⟨w.heap.size, 2, none⟩ = some (.int .u8 b2) ∧ w1.cell? ⟨w.heap.size, 3, none⟩ = some (.int .u8 b3) ∧ w1.cell? ⟨w.heap.size, 4, none⟩ = some (.int .u8 b4) ∧ w1.cell? ⟨w.heap.size, 5, none⟩ = some (.int .u8 b5) ∧ w1.cell? ⟨w.heap.size, 6, none⟩ = some (.int .u8 b6) ∧ w1.cell? ⟨w.heap.size, 7, none⟩ = some (.int .u8 b7) := by (refine ⟨?_, ?_, ?_, ?_, ?_, ?_, ?_, ?_⟩ <;> (refine carry hb1 (by first | omega | (simp only [World.size_drew]; omega)) ?_; simp [go_sem, *])))
      | (go_at_call 29; (with_reducible refine (bytes_hor b0 b1 b2 b3 b4 b5 b6 b7 _ h0 h1 h2 h3 h4 h5 h6 h7).mono ?_); rintro e w1 ⟨rfl, hb1⟩; have hz1 : w.heap.size < w1.heap.size := (by have := hb1.size; (try simp only [World.size_drew] at this); omega); have hB1 : Below w.heap.size w w1 := Below.trans (by first | assumption | (refine Below.drew ?_; assumption)) (hb1.mono (by first | omega | (simp only [World.size_drew]; omega))); have kS : w1.cell? ⟨w.heap.size, 0, none⟩ = some (.int .u8 b0) ∧ w1.cell? ⟨w.heap.size, 1, none⟩ = some (.int .u8 b1) ∧ w1.cell? ⟨w.heap.size, 2, none⟩ = some (.int .u8 b2) ∧ w1.cell? ⟨w.heap.size, 3, none⟩ = some (.int .u8 b3) ∧ w1.cell? ⟨w.heap.size, 4, none⟩ = some (.int .u8 b4) ∧ w1.cell? ⟨w.heap.size, 5, none⟩ = some (.int .u8 b5) ∧ w1.cell? ⟨w.heap.size, 6, none⟩ = some (.int .u8 b6) ∧ w1.cell? ⟨w.heap.size, 7, none⟩ = some (.int .u8 b7) := by (refine ⟨?_, ?_, ?_, ?_, ?_, ?_, ?_, ?_⟩ <;> (refine carry hb1 (by first | omega | (simp only [World.size_drew]; omega)) ?_; simp [go_sem, *])))
      | (go_at_call 29; (with_reducible refine (bytes_any a _).mono ?_); rintro e w1 ⟨rfl, hb1⟩; have hz1 : w.heap.size < w1.heap.size := (by have := hb1.size; (try simp only [World.size_drew] at this); omega); have hB1 : Below w.heap.size w w1 := Below.trans (by first | assumption | (refine Below.drew ?_; assumption)) (hb1.mono (by first | omega | (simp only [World.size_drew]; omega))); have kS : w1.cell? ⟨w.heap.size, 0, none⟩ = some (.int .u8 b0) ∧ w1.cell? ⟨w.heap.size, 1, none⟩ = some (.int .u8 b1) ∧ w1.cell? ⟨w.heap.size, 2, none⟩ = some (.int .u8 b2) ∧ w1.cell? ⟨w.heap.size, 3, none⟩ = some (.int .u8 b3) ∧ w1.cell? ⟨w.heap.size, 4, none⟩ = some (.int .u8 b4) ∧ w1.cell? ⟨w.heap.size, 5, none⟩ = some (.int .u8 b5) ∧ w1.cell? ⟨w.heap.size, 6, none⟩ = some (.int .u8 b6) ∧ w1.cell? ⟨w.heap.size, 7, none⟩ = some (.int .u8 b7) := by (refine ⟨?_, ?_, ?_, ?_, ?_, ?_, ?_, ?_⟩ <;> (refine carry hb1 (by first | omega | (simp only [World.size_drew]; omega)) ?_; simp [go_sem, *]))))
  have hBe : Below w.heap.size w w1 := hB1
  clear c0 c1 c2 c3 c4 c5 c6 c7 hq h0 h1 h2 h3 h4 h5 h6 h7 hB hz kS hB1
  by_cases z : b = 0
  · have z0 : (b == 0) = true := by simp [z]
    have Z := Lib.hid z
    clear z
    go_wp2
    go_returns
    exact ⟨rfl, hBe⟩
  · have z0 : (b == 0) = false := beq_eq_false_iff_ne.2 z
    have d1 : (wrap64 (wrap64 (zQ a b * b) + zR a b) != a) = false := by rw [flo_back HA z]; simp
    have d2 : (wrap64 (wrap64 (yQ a b * b) + yR a b) != a) = false := by rw [sym_back HA z]; simp
    have d3 : (yF b != 0) = false := by unfold yF; rw [if_neg z]; rfl
    rcases zR_cases HA HB z with ⟨x1, x2⟩ | ⟨x1, x2, x3, x4⟩
    · have y1 : (zR a b != 0) = false := by rw [x1]; rfl
      have y2 : (yR a b != 0) = false := by rw [x2]; rfl
      clear x1 x2
      go_wp2_with (first
        | (go_at_call 11; refine (floored_any _ _ _).mono ?_; rintro e w' ⟨rfl, m, rfl⟩)
        | (go_at_call 12; refine (symmetric_any _ _ _).mono ?_; rintro e w' ⟨rfl, m, rfl⟩)
        | (go_at_call 19; refine (utimes _ _ _).mono ?_; rintro e w2 ⟨rfl, hb2⟩))
      have hB2 : Below w.heap.size w w2 := (below_drewN hBe _).trans (hb2.mono hBe.size)
      clear hBe
      go_wp2_with (fail)
      refine (ub a b _ HA z HB).mono ?_
      rintro e w3 ⟨rfl, hb3⟩
      have hB3 := hB2.trans (hb3.mono hB2.size)
      go_wp2_with (fail)
      refine (times _ _ _).mono ?_
      rintro e w4 ⟨rfl, hb4⟩
      have hB4 := hB3.trans (hb4.mono hB3.size)
      go_wp2_with (fail)
      refine (fb a b _ HA z HB).mono ?_
      rintro e w5 ⟨rfl, hb5⟩
      have hB5 := hB4.trans (hb5.mono hB4.size)
      go_wp2_with (fail)
      refine (times _ _ _).mono ?_
      rintro e w6 ⟨rfl, hb6⟩
      have hB6 := hB5.trans (hb6.mono hB5.size)
      go_wp2_with (fail)
      refine (sb a b _ HA z HB).mono ?_
      rintro e w7 ⟨rfl, hb7⟩
      have hB7 := hB6.trans (hb7.mono hB6.size)
      go_wp2
      go_returns
      exact ⟨rfl, hB7⟩
    · have y1 : (zR a b != 0) = true := by simp [x1]
      have y2 : (yR a b != 0) = true := by simp [x3]
      have y3 : (!decide (zR a b < 0) == decide (b < 0)) = false := by rw [x2]; simp
      have y4 : (!decide (yR a b < 0) == decide (a < 0)) = false := by
        obtain ⟨g1, g2⟩ := yR_sign (a := a) z
        by_cases s0 : a < 0
        · rw [decide_eq_true s0, decide_eq_true (show yR a b < 0 by have := g2 s0; omega)]; rfl
        · rw [decide_eq_false s0, decide_eq_false (show ¬ yR a b < 0 by have := g1 (by omega); omega)]; rfl
      by_cases x5 : zR a b = yR a b
      · have y5 : (zR a b != yR a b) = false := by simp [x5]
        clear x1 x2 x3 x4 x5
        go_wp2_with (first
          | (go_at_call 11; refine (floored_any _ _ _).mono ?_; rintro e w' ⟨rfl, m, rfl⟩)
          | (go_at_call 12; refine (symmetric_any _ _ _).mono ?_; rintro e w' ⟨rfl, m, rfl⟩)
          | (go_at_call 19; refine (utimes _ _ _).mono ?_; rintro e w2 ⟨rfl, hb2⟩))
        have hB2 : Below w.heap.size w w2 := (below_drewN hBe _).trans (hb2.mono hBe.size)
        clear hBe
        go_wp2_with (fail)
        refine (ub a b _ HA z HB).mono ?_
        rintro e w3 ⟨rfl, hb3⟩
        have hB3 := hB2.trans (hb3.mono hB2.size)
        go_wp2_with (fail)
        refine (times _ _ _).mono ?_
        rintro e w4 ⟨rfl, hb4⟩
        have hB4 := hB3.trans (hb4.mono hB3.size)
        go_wp2_with (fail)
        refine (fb a b _ HA z HB).mono ?_
        rintro e w5 ⟨rfl, hb5⟩
        have hB5 := hB4.trans (hb5.mono hB4.size)
        go_wp2_with (fail)
        refine (times _ _ _).mono ?_
        rintro e w6 ⟨rfl, hb6⟩
        have hB6 := hB5.trans (hb6.mono hB5.size)
        go_wp2_with (fail)
        refine (sb a b _ HA z HB).mono ?_
        rintro e w7 ⟨rfl, hb7⟩
        have hB7 := hB6.trans (hb7.mono hB6.size)
        go_wp2
        go_returns
        exact ⟨rfl, hB7⟩
      · have y5 : (zR a b != yR a b) = true := by simp [x5]
        have x6 : wrap64 (zR a b - b) = yR a b := by
          rcases x4 with x4 | x4
          · exact absurd x4 x5
          · exact x4
        have y6 : (wrap64 (zR a b - b) != yR a b) = false := by simp [x6]
        clear x1 x2 x3 x4 x5 x6
        go_wp2_with (first
          | (go_at_call 11; refine (floored_any _ _ _).mono ?_; rintro e w' ⟨rfl, m, rfl⟩)
          | (go_at_call 12; refine (symmetric_any _ _ _).mono ?_; rintro e w' ⟨rfl, m, rfl⟩)
          | (go_at_call 19; refine (utimes _ _ _).mono ?_; rintro e w2 ⟨rfl, hb2⟩))
        have hB2 : Below w.heap.size w w2 := (below_drewN hBe _).trans (hb2.mono hBe.size)
        clear hBe
        go_wp2_with (fail)
        refine (ub a b _ HA z HB).mono ?_
        rintro e w3 ⟨rfl, hb3⟩
        have hB3 := hB2.trans (hb3.mono hB2.size)
        go_wp2_with (fail)
        refine (times _ _ _).mono ?_
        rintro e w4 ⟨rfl, hb4⟩
        have hB4 := hB3.trans (hb4.mono hB3.size)
        go_wp2_with (fail)
        refine (fb a b _ HA z HB).mono ?_
        rintro e w5 ⟨rfl, hb5⟩
        have hB5 := hB4.trans (hb5.mono hB4.size)
        go_wp2_with (fail)
        refine (times _ _ _).mono ?_
        rintro e w6 ⟨rfl, hb6⟩
        have hB6 := hB5.trans (hb6.mono hB5.size)
        go_wp2_with (fail)
        refine (sb a b _ HA z HB).mono ?_
        rintro e w7 ⟨rfl, hb7⟩
        have hB7 := hB6.trans (hb7.mono hB6.size)
        go_wp2
        go_returns
        exact ⟨rfl, hB7⟩
end Go.Proofs.Ytfifbkcgaohhbaa
