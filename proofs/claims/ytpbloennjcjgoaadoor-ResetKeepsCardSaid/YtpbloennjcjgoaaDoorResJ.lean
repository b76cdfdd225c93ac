import Derived.Test.YtpbloennjcjgoaaDoorResI
namespace Go.Proofs.YtpbloennjcjgoaaDoor
open Go.RowKit
set_option linter.unusedVariables false
set_option linter.unusedSimpArgs false
set_option maxHeartbeats 1000000 in
set_option maxRecDepth 100000 in
theorem stof_any (s d r : ByteArray) (h l : Int) (w : World) :
    Calls Tryd.prog 12 #[stateV s d r h l] w fun e w' => e = .returned (stateV s d r h l) ∧ Below w.heap.size w w' := by
  unfold stateV
  go_enter Tryd.func12, Tryd.ntmps12
  go_wp2_with (fail)
  have hK := Bk.fresh (w.alloc (.cells #[.string s, .string d, .string r, .int .i64 h, .int .i64 l] 23)) 30 #[.string s, .string d, .string r, .int .i64 h, .int .i64 l]
  have hB := ((Below.refl w.heap.size w).alloc (Nat.le_refl _) (.cells #[.string s, .string d, .string r, .int .i64 h, .int .i64 l] 23)).alloc (by simp) (.cells #[.string s, .string d, .string r, .int .i64 h, .int .i64 l] 30)
  have hz : (w.alloc (.cells #[.string s, .string d, .string r, .int .i64 h, .int .i64 l] 23)).heap.size = w.heap.size + 1 := by simp
  rw [hz] at hK
  obtain ⟨w9, hw9⟩ : ∃ w9, (w.alloc (.cells #[.string s, .string d, .string r, .int .i64 h, .int .i64 l] 23)).alloc (.cells #[.string s, .string d, .string r, .int .i64 h, .int .i64 l] 30) = w9 := ⟨_, rfl⟩
  rw [hw9] at hK hB ⊢
  have r0 := hK.cell 0
  have r1 := hK.cell 1
  have r2 := hK.cell 2
  have r3 := hK.cell 3
  have r4 := hK.cell 4
  simp at r0 r1 r2 r3 r4
  refine bodyPost_ret (by simp [results, Tryd.results12, go_sem, r0, r1, r2, r3, r4]; rfl) rfl ?_
  exact ⟨rfl, hB⟩
set_option maxHeartbeats 1000000 in
set_option maxRecDepth 100000 in
theorem eql_a (t : TypeId) (ht : t = 23 ∨ t = 30) (s1 d1 r1 s2 d2 r2 : ByteArray) (h1 l1 h2 l2 : Int) (w : World) (b : Bool) (hb : b = true ∧ (s1 = s2 ∧ d1 = d2 ∧ r1 = r2 ∧ h1 = h2 ∧ l1 = l2) ∨ b = false ∧ ¬ (s1 = s2 ∧ d1 = d2 ∧ r1 = r2 ∧ h1 = h2 ∧ l1 = l2)) :
    (binOp .eql t (stateV s1 d1 r1 h1 l1) (stateV s2 d2 r2 h2 l2)).run Tryd.prog w = .ok (.bool b) w := by
  unfold stateV
  have hs : b = (s1.toList == s2.toList && (d1.toList == d2.toList && (r1.toList == r2.toList && (h1 == h2 && l1 == l2)))) := by
    have e : ∀ a b : ByteArray, (a.toList == b.toList) = decide (a = b) := fun a b => by
      by_cases h : a = b
      · rw [str_same a b h, decide_eq_true h]
      · rw [str_other a b h, decide_eq_false h]
    rw [e, e, e]
    rcases hb with ⟨rfl, h⟩ | ⟨rfl, h⟩
    · simp [h]
    · by_cases g1 : s1 = s2 <;> by_cases g2 : d1 = d2 <;> by_cases g3 : r1 = r2 <;> by_cases g4 : h1 = h2 <;> by_cases g5 : l1 = l2 <;> simp_all
  rw [hs]
  rcases ht with rfl | rfl
  · simp [go_sem]
    by_cases c1 : s1.toList = s2.toList <;> by_cases c2 : d1.toList = d2.toList <;> by_cases c3 : r1.toList = r2.toList <;> by_cases c4 : h1 = h2 <;> by_cases c5 : l1 = l2 <;> simp [c1, c2, c3, c4, c5]
  · simp [go_sem]
    by_cases c1 : s1.toList = s2.toList <;> by_cases c2 : d1.toList = d2.toList <;> by_cases c3 : r1.toList = r2.toList <;> by_cases c4 : h1 = h2 <;> by_cases c5 : l1 = l2 <;> simp [c1, c2, c3, c4, c5]
set_option maxHeartbeats 1000000 in
set_option maxRecDepth 100000 in
theorem r16_same_any (s1 d1 r1 s2 d2 r2 : ByteArray) (h1 l1 h2 l2 : Int) (w : World) (b : Bool) (hb : b = true ∧ (s1 = s2 ∧ d1 = d2 ∧ r1 = r2 ∧ h1 = h2 ∧ l1 = l2) ∨ b = false ∧ ¬ (s1 = s2 ∧ d1 = d2 ∧ r1 = r2 ∧ h1 = h2 ∧ l1 = l2)) :
    Calls Tryd.prog 18 #[stateV s1 d1 r1 h1 l1, stateV s2 d2 r2 h2 l2] w fun e w' => e = .returned (.bool b) ∧ Below w.heap.size w w' := by
  have he := fun w => eql_a 23 (.inl rfl) s1 d1 r1 s2 d2 r2 h1 l1 h2 l2 w b hb
  clear hb
  unfold stateV at he ⊢
  go_enter Tryd.func18, Tryd.ntmps18
  go_wp2_with (fail)
  go_returns
  exact ⟨rfl, ((Below.refl _ _).alloc (Nat.le_refl _) _).alloc (by simp) _⟩
/-- what first says of two texts -/
noncomputable def fst (a b : ByteArray) : Int := open Classical in if a = b then -1 else (div a b 0 : Int)
theorem fst_is (a b : ByteArray) : a = b ∧ fst a b = -1 ∨ ¬ a = b ∧ fst a b = (div a b 0 : Int) := by
  unfold fst
  by_cases h : a = b
  · left; simp [h]
  · right; simp [h]
set_option maxHeartbeats 2000000 in
set_option maxRecDepth 100000 in
theorem rdiffer_any (s1 d1 r1 s2 d2 r2 : ByteArray) (h1 l1 h2 l2 : Int) (w : World) (z1 : s1.size ≤ maxLen) (z2 : d1.size ≤ maxLen) (z3 : r1.size ≤ maxLen) (y1 : s2.size ≤ maxLen) (y2 : d2.size ≤ maxLen) (y3 : r2.size ≤ maxLen) :
    Calls Tryd.prog 17 #[stateV s1 d1 r1 h1 l1, stateV s2 d2 r2 h2 l2] w fun e w' => ∃ k d, e = .returned (.tuple #[.int .i64 k, .int .i64 d]) ∧ DiffP s1 d1 r1 s2 d2 r2 k d ∧ Below w.heap.size w w' := by
  unfold stateV
  go_enter Tryd.func17, Tryd.ntmps17
  go_wp2_with (fail)
  have hX := ((Bk.fresh ((w.alloc (.cells #[.string s1, .string d1, .string r1, .int .i64 h1, .int .i64 l1] 30)).alloc (.cells #[.string s2, .string d2, .string r2, .int .i64 h2, .int .i64 l2] 30)) 9 #[.string s1, .string d1, .string r1]).past (.cells #[.string s2, .string d2, .string r2] 9))
  have hY := Bk.fresh (((w.alloc (.cells #[.string s1, .string d1, .string r1, .int .i64 h1, .int .i64 l1] 30)).alloc (.cells #[.string s2, .string d2, .string r2, .int .i64 h2, .int .i64 l2] 30)).alloc (.cells #[.string s1, .string d1, .string r1] 9)) 9 #[.string s2, .string d2, .string r2]
  have hB := ((((Below.refl w.heap.size w).alloc (Nat.le_refl _) (.cells #[.string s1, .string d1, .string r1, .int .i64 h1, .int .i64 l1] 30)).alloc (by simp) (.cells #[.string s2, .string d2, .string r2, .int .i64 h2, .int .i64 l2] 30)).alloc (by simp; omega) (.cells #[.string s1, .string d1, .string r1] 9)).alloc (by simp; omega) (.cells #[.string s2, .string d2, .string r2] 9)
  simp only [World.size_alloc] at hX hY
  obtain ⟨wc, hwc⟩ : ∃ wc, (((w.alloc (.cells #[.string s1, .string d1, .string r1, .int .i64 h1, .int .i64 l1] 30)).alloc (.cells #[.string s2, .string d2, .string r2, .int .i64 h2, .int .i64 l2] 30)).alloc (.cells #[.string s1, .string d1, .string r1] 9)).alloc (.cells #[.string s2, .string d2, .string r2] 9) = wc := ⟨_, rfl⟩
  rw [hwc] at hX hY hB ⊢
  clear hwc
  obtain ⟨bx, hbx⟩ : ∃ bx, w.heap.size + 1 + 1 = bx := ⟨_, rfl⟩
  rw [hbx] at hX hY ⊢
  obtain ⟨by_, hby⟩ : ∃ by_, bx + 1 = by_ := ⟨_, rfl⟩
  rw [hby] at hY ⊢
  replace hbx := Lib.hid hbx
  replace hby := Lib.hid hby
  have x0 : wc.cell? ⟨bx, 0, none⟩ = some (.string s1) := hX.cell 0
  have x1 : wc.cell? ⟨bx, 1, none⟩ = some (.string d1) := hX.cell 1
  have x2 : wc.cell? ⟨bx, 2, none⟩ = some (.string r1) := hX.cell 2
  have y0_ : wc.cell? ⟨by_, 0, none⟩ = some (.string s2) := hY.cell 0
  have y1_ : wc.cell? ⟨by_, 1, none⟩ = some (.string d2) := hY.cell 1
  have y2_ : wc.cell? ⟨by_, 2, none⟩ = some (.string r2) := hY.cell 2
  refine wp_loop_rounds 4 ?_
  rw [rounds_succ]
  go_wp2_with (fail)
  go_quiet ((go_at_call 40; exact Calls.quiet_of (first_any s1 s2 _ z1 y1 _ (fst_is s1 s2))))
  replace hX : Bk (wc.drewN nq) bx 9 #[.string s1, .string d1, .string r1] := hX
  replace hY : Bk (wc.drewN nq) by_ 9 #[.string s2, .string d2, .string r2] := hY
  replace hB : Below w.heap.size w (wc.drewN nq) := hB.trans ⟨rfl, rfl, rfl, Nat.le_refl _, fun _ _ => rfl⟩
  clear x0 x1 x2 y0_ y1_ y2_
  obtain ⟨wd, hwd⟩ : ∃ wz, wc.drewN nq = wz := ⟨_, rfl⟩
  rw [hwd] at hX hY hB ⊢
  clear hwd
  have x0 : wd.cell? ⟨bx, 0, none⟩ = some (.string s1) := hX.cell 0
  have y0_ : wd.cell? ⟨by_, 0, none⟩ = some (.string s2) := hY.cell 0
  have x1 : wd.cell? ⟨bx, 1, none⟩ = some (.string d1) := hX.cell 1
  have y1_ : wd.cell? ⟨by_, 1, none⟩ = some (.string d2) := hY.cell 1
  have x2 : wd.cell? ⟨bx, 2, none⟩ = some (.string r1) := hX.cell 2
  have y2_ : wd.cell? ⟨by_, 2, none⟩ = some (.string r2) := hY.cell 2
  rcases fst_is s1 s2 with ⟨e3, f3⟩ | ⟨e3, f3⟩
  · replace e3 := Lib.hid e3
    go_wp2_with (fail)
    rw [rounds_succ]
    go_wp2_with (fail)
    go_quiet ((go_at_call 40; exact Calls.quiet_of (first_any d1 d2 _ z2 y2 _ (fst_is d1 d2))))
    replace hX : Bk (wd.drewN nq) bx 9 #[.string s1, .string d1, .string r1] := hX
    replace hY : Bk (wd.drewN nq) by_ 9 #[.string s2, .string d2, .string r2] := hY
    replace hB : Below w.heap.size w (wd.drewN nq) := hB.trans ⟨rfl, rfl, rfl, Nat.le_refl _, fun _ _ => rfl⟩
    clear x0 x1 x2 y0_ y1_ y2_
    obtain ⟨we, hwd⟩ : ∃ wz, wd.drewN nq = wz := ⟨_, rfl⟩
    rw [hwd] at hX hY hB ⊢
    clear hwd
    have x0 : we.cell? ⟨bx, 0, none⟩ = some (.string s1) := hX.cell 0
    have y0_ : we.cell? ⟨by_, 0, none⟩ = some (.string s2) := hY.cell 0
    have x1 : we.cell? ⟨bx, 1, none⟩ = some (.string d1) := hX.cell 1
    have y1_ : we.cell? ⟨by_, 1, none⟩ = some (.string d2) := hY.cell 1
    have x2 : we.cell? ⟨bx, 2, none⟩ = some (.string r1) := hX.cell 2
    have y2_ : we.cell? ⟨by_, 2, none⟩ = some (.string r2) := hY.cell 2
    rcases fst_is d1 d2 with ⟨e4, f4⟩ | ⟨e4, f4⟩
    · replace e4 := Lib.hid e4
      go_wp2_with (fail)
      rw [rounds_succ]
      go_wp2_with (fail)
      go_quiet ((go_at_call 40; exact Calls.quiet_of (first_any r1 r2 _ z3 y3 _ (fst_is r1 r2))))
      replace hX : Bk (we.drewN nq) bx 9 #[.string s1, .string d1, .string r1] := hX
      replace hY : Bk (we.drewN nq) by_ 9 #[.string s2, .string d2, .string r2] := hY
      replace hB : Below w.heap.size w (we.drewN nq) := hB.trans ⟨rfl, rfl, rfl, Nat.le_refl _, fun _ _ => rfl⟩
      clear x0 x1 x2 y0_ y1_ y2_
      obtain ⟨wf, hwd⟩ : ∃ wz, we.drewN nq = wz := ⟨_, rfl⟩
      rw [hwd] at hX hY hB ⊢
      clear hwd
      have x0 : wf.cell? ⟨bx, 0, none⟩ = some (.string s1) := hX.cell 0
      have y0_ : wf.cell? ⟨by_, 0, none⟩ = some (.string s2) := hY.cell 0
      have x1 : wf.cell? ⟨bx, 1, none⟩ = some (.string d1) := hX.cell 1
      have y1_ : wf.cell? ⟨by_, 1, none⟩ = some (.string d2) := hY.cell 1
      have x2 : wf.cell? ⟨bx, 2, none⟩ = some (.string r1) := hX.cell 2
      have y2_ : wf.cell? ⟨by_, 2, none⟩ = some (.string r2) := hY.cell 2
      rcases fst_is r1 r2 with ⟨e5, f5⟩ | ⟨e5, f5⟩
      · replace e5 := Lib.hid e5
        go_wp2_with (fail)
        rw [rounds_succ]
        go_wp2_with (fail)
        go_returns
        exact ⟨0, 0, rfl, .inr (.inr (.inr ⟨e3.out, e4.out, e5.out, rfl, rfl⟩)), hB⟩
      · replace e5 : Hid (¬ r1 = r2) := e5
        obtain ⟨n, hn⟩ : ∃ n, div r1 r2 0 = n := ⟨_, rfl⟩
        rw [hn] at f5
        rw [f5]
        replace hn := Lib.hid hn
        have n0 : (0 : Int) ≤ n := by omega
        go_wp2_with (fail)
        go_returns
        exact ⟨5, n, rfl, .inr (.inr (.inl ⟨e3.out, e4.out, e5.out, rfl, by rw [hn.out]⟩)), hB⟩
    · replace e4 : Hid (¬ d1 = d2) := e4
      obtain ⟨n, hn⟩ : ∃ n, div d1 d2 0 = n := ⟨_, rfl⟩
      rw [hn] at f4
      rw [f4]
      replace hn := Lib.hid hn
      have n0 : (0 : Int) ≤ n := by omega
      go_wp2_with (fail)
      go_returns
      exact ⟨4, n, rfl, .inr (.inl ⟨e3.out, e4.out, rfl, by rw [hn.out]⟩), hB⟩
  · replace e3 : Hid (¬ s1 = s2) := e3
    obtain ⟨n, hn⟩ : ∃ n, div s1 s2 0 = n := ⟨_, rfl⟩
    rw [hn] at f3
    rw [f3]
    replace hn := Lib.hid hn
    have n0 : (0 : Int) ≤ n := by omega
    go_wp2_with (fail)
    go_returns
    exact ⟨3, n, rfl, .inl ⟨e3.out, rfl, by rw [hn.out]⟩, hB⟩
end Go.Proofs.YtpbloennjcjgoaaDoor
