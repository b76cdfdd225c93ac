import Derived.Test.YtmfffaocmboelaaDwA
namespace Go.Proofs.Ytmfffaocmboelaa
open Go.RowKit
set_option linter.unusedVariables false
set_option linter.unusedSimpArgs false
/-! what a row wants, which operations it lays, the topmost thing: the document's -/
theorem rwants_0 (w : World) : Calls Try.prog 24 #[.int .i64 0] w fun e w' => e = .returned (.int .i64 0) ∧ w' = w := by
  go_enter Try.func24, Try.ntmps24
  go_wp2
  go_returns
  exact ⟨rfl, rfl⟩
theorem rlays_0 (w : World) : Calls Try.prog 26 #[.int .i64 0] w fun e w' => e = .returned (.slice (some ⟨w.heap.size, 0, none⟩) 1 1) ∧ w' = w.alloc (.cells #[.int .i64 5] 3) := by
  go_enter Try.func26, Try.ntmps26
  go_wp2
  go_returns
  exact ⟨rfl, rfl⟩
theorem rwants_1 (w : World) : Calls Try.prog 24 #[.int .i64 1] w fun e w' => e = .returned (.int .i64 1) ∧ w' = w := by
  go_enter Try.func24, Try.ntmps24
  go_wp2
  go_returns
  exact ⟨rfl, rfl⟩
theorem rlays_1 (w : World) : Calls Try.prog 26 #[.int .i64 1] w fun e w' => e = .returned (.slice (some ⟨w.heap.size, 0, none⟩) 1 1) ∧ w' = w.alloc (.cells #[.int .i64 4] 3) := by
  go_enter Try.func26, Try.ntmps26
  go_wp2
  go_returns
  exact ⟨rfl, rfl⟩
theorem rwants_2 (w : World) : Calls Try.prog 24 #[.int .i64 2] w fun e w' => e = .returned (.int .i64 1) ∧ w' = w := by
  go_enter Try.func24, Try.ntmps24
  go_wp2
  go_returns
  exact ⟨rfl, rfl⟩
theorem rlays_2 (w : World) : Calls Try.prog 26 #[.int .i64 2] w fun e w' => e = .returned (.slice none 0 0) ∧ w' = w := by
  go_enter Try.func26, Try.ntmps26
  go_wp2
  go_returns
  exact ⟨rfl, rfl⟩
theorem rwants_3 (w : World) : Calls Try.prog 24 #[.int .i64 3] w fun e w' => e = .returned (.int .i64 0) ∧ w' = w := by
  go_enter Try.func24, Try.ntmps24
  go_wp2
  go_returns
  exact ⟨rfl, rfl⟩
theorem rlays_3 (w : World) : Calls Try.prog 26 #[.int .i64 3] w fun e w' => e = .returned (.slice none 0 0) ∧ w' = w := by
  go_enter Try.func26, Try.ntmps26
  go_wp2
  go_returns
  exact ⟨rfl, rfl⟩
theorem rwants_4 (w : World) : Calls Try.prog 24 #[.int .i64 4] w fun e w' => e = .returned (.int .i64 2) ∧ w' = w := by
  go_enter Try.func24, Try.ntmps24
  go_wp2
  go_returns
  exact ⟨rfl, rfl⟩
theorem rlays_4 (w : World) : Calls Try.prog 26 #[.int .i64 4] w fun e w' => e = .returned (.slice (some ⟨w.heap.size, 0, none⟩) 1 1) ∧ w' = w.alloc (.cells #[.int .i64 4] 3) := by
  go_enter Try.func26, Try.ntmps26
  go_wp2
  go_returns
  exact ⟨rfl, rfl⟩
theorem rwants_5 (w : World) : Calls Try.prog 24 #[.int .i64 5] w fun e w' => e = .returned (.int .i64 2) ∧ w' = w := by
  go_enter Try.func24, Try.ntmps24
  go_wp2
  go_returns
  exact ⟨rfl, rfl⟩
theorem rlays_5 (w : World) : Calls Try.prog 26 #[.int .i64 5] w fun e w' => e = .returned (.slice (some ⟨w.heap.size, 0, none⟩) 1 1) ∧ w' = w.alloc (.cells #[.int .i64 5] 3) := by
  go_enter Try.func26, Try.ntmps26
  go_wp2
  go_returns
  exact ⟨rfl, rfl⟩
theorem rwants_6 (w : World) : Calls Try.prog 24 #[.int .i64 6] w fun e w' => e = .returned (.int .i64 2) ∧ w' = w := by
  go_enter Try.func24, Try.ntmps24
  go_wp2
  go_returns
  exact ⟨rfl, rfl⟩
theorem rlays_6 (w : World) : Calls Try.prog 26 #[.int .i64 6] w fun e w' => e = .returned (.slice (some ⟨w.heap.size, 0, none⟩) 1 1) ∧ w' = w.alloc (.cells #[.int .i64 5] 3) := by
  go_enter Try.func26, Try.ntmps26
  go_wp2
  go_returns
  exact ⟨rfl, rfl⟩
theorem rwants_7 (w : World) : Calls Try.prog 24 #[.int .i64 7] w fun e w' => e = .returned (.int .i64 3) ∧ w' = w := by
  go_enter Try.func24, Try.ntmps24
  go_wp2
  go_returns
  exact ⟨rfl, rfl⟩
theorem rlays_7 (w : World) : Calls Try.prog 26 #[.int .i64 7] w fun e w' => e = .returned (.slice (some ⟨w.heap.size, 0, none⟩) 1 1) ∧ w' = w.alloc (.cells #[.int .i64 4] 3) := by
  go_enter Try.func26, Try.ntmps26
  go_wp2
  go_returns
  exact ⟨rfl, rfl⟩
theorem rwants_8 (w : World) : Calls Try.prog 24 #[.int .i64 8] w fun e w' => e = .returned (.int .i64 0) ∧ w' = w := by
  go_enter Try.func24, Try.ntmps24
  go_wp2
  go_returns
  exact ⟨rfl, rfl⟩
theorem rlays_8 (w : World) : Calls Try.prog 26 #[.int .i64 8] w fun e w' => e = .returned (.slice (some ⟨w.heap.size, 0, none⟩) 1 1) ∧ w' = w.alloc (.cells #[.int .i64 6] 3) := by
  go_enter Try.func26, Try.ntmps26
  go_wp2
  go_returns
  exact ⟨rfl, rfl⟩
theorem rwants_9 (w : World) : Calls Try.prog 24 #[.int .i64 9] w fun e w' => e = .returned (.int .i64 0) ∧ w' = w := by
  go_enter Try.func24, Try.ntmps24
  go_wp2
  go_returns
  exact ⟨rfl, rfl⟩
theorem rlays_9 (w : World) : Calls Try.prog 26 #[.int .i64 9] w fun e w' => e = .returned (.slice (some ⟨w.heap.size, 0, none⟩) 1 1) ∧ w' = w.alloc (.cells #[.int .i64 7] 3) := by
  go_enter Try.func26, Try.ntmps26
  go_wp2
  go_returns
  exact ⟨rfl, rfl⟩
theorem rwants_10 (w : World) : Calls Try.prog 24 #[.int .i64 10] w fun e w' => e = .returned (.int .i64 4) ∧ w' = w := by
  go_enter Try.func24, Try.ntmps24
  go_wp2
  go_returns
  exact ⟨rfl, rfl⟩
theorem rlays_10 (w : World) : Calls Try.prog 26 #[.int .i64 10] w fun e w' => e = .returned (.slice (some ⟨w.heap.size, 0, none⟩) 1 1) ∧ w' = w.alloc (.cells #[.int .i64 8] 3) := by
  go_enter Try.func26, Try.ntmps26
  go_wp2
  go_returns
  exact ⟨rfl, rfl⟩
theorem rwants_11 (w : World) : Calls Try.prog 24 #[.int .i64 11] w fun e w' => e = .returned (.int .i64 4) ∧ w' = w := by
  go_enter Try.func24, Try.ntmps24
  go_wp2
  go_returns
  exact ⟨rfl, rfl⟩
theorem rlays_11 (w : World) : Calls Try.prog 26 #[.int .i64 11] w fun e w' => e = .returned (.slice (some ⟨w.heap.size, 0, none⟩) 1 1) ∧ w' = w.alloc (.cells #[.int .i64 9] 3) := by
  go_enter Try.func26, Try.ntmps26
  go_wp2
  go_returns
  exact ⟨rfl, rfl⟩
theorem rwants_12 (w : World) : Calls Try.prog 24 #[.int .i64 12] w fun e w' => e = .returned (.int .i64 0) ∧ w' = w := by
  go_enter Try.func24, Try.ntmps24
  go_wp2
  go_returns
  exact ⟨rfl, rfl⟩
theorem rlays_12 (w : World) : Calls Try.prog 26 #[.int .i64 12] w fun e w' => e = .returned (.slice (some ⟨w.heap.size, 0, none⟩) 2 2) ∧ w' = w.alloc (.cells #[.int .i64 10, .int .i64 4] 3) := by
  go_enter Try.func26, Try.ntmps26
  go_wp2
  go_returns
  exact ⟨rfl, rfl⟩
theorem rwants_13 (w : World) : Calls Try.prog 24 #[.int .i64 13] w fun e w' => e = .returned (.int .i64 0) ∧ w' = w := by
  go_enter Try.func24, Try.ntmps24
  go_wp2
  go_returns
  exact ⟨rfl, rfl⟩
theorem rlays_13 (w : World) : Calls Try.prog 26 #[.int .i64 13] w fun e w' => e = .returned (.slice none 0 0) ∧ w' = w := by
  go_enter Try.func26, Try.ntmps26
  go_wp2
  go_returns
  exact ⟨rfl, rfl⟩
theorem rwants_14 (w : World) : Calls Try.prog 24 #[.int .i64 14] w fun e w' => e = .returned (.int .i64 5) ∧ w' = w := by
  go_enter Try.func24, Try.ntmps24
  go_wp2
  go_returns
  exact ⟨rfl, rfl⟩
theorem rlays_14 (w : World) : Calls Try.prog 26 #[.int .i64 14] w fun e w' => e = .returned (.slice (some ⟨w.heap.size, 0, none⟩) 4 4) ∧ w' = w.alloc (.cells #[.int .i64 24, .int .i64 58, .int .i64 5, .int .i64 22] 3) := by
  go_enter Try.func26, Try.ntmps26
  go_wp2
  go_returns
  exact ⟨rfl, rfl⟩
theorem rwants_15 (w : World) : Calls Try.prog 24 #[.int .i64 15] w fun e w' => e = .returned (.int .i64 6) ∧ w' = w := by
  go_enter Try.func24, Try.ntmps24
  go_wp2
  go_returns
  exact ⟨rfl, rfl⟩
theorem rlays_15 (w : World) : Calls Try.prog 26 #[.int .i64 15] w fun e w' => e = .returned (.slice (some ⟨w.heap.size, 0, none⟩) 1 1) ∧ w' = w.alloc (.cells #[.int .i64 4] 3) := by
  go_enter Try.func26, Try.ntmps26
  go_wp2
  go_returns
  exact ⟨rfl, rfl⟩
theorem rwants_16 (w : World) : Calls Try.prog 24 #[.int .i64 16] w fun e w' => e = .returned (.int .i64 5) ∧ w' = w := by
  go_enter Try.func24, Try.ntmps24
  go_wp2
  go_returns
  exact ⟨rfl, rfl⟩
theorem rlays_16 (w : World) : Calls Try.prog 26 #[.int .i64 16] w fun e w' => e = .returned (.slice (some ⟨w.heap.size, 0, none⟩) 1 1) ∧ w' = w.alloc (.cells #[.int .i64 22] 3) := by
  go_enter Try.func26, Try.ntmps26
  go_wp2
  go_returns
  exact ⟨rfl, rfl⟩
/-- the document's flow in memory -/
structure Dl (w : World) (F : Nat) (own : Nat → Prop) (v : Value) (X : List (Th × Value)) : Prop where
  bk : Bk w F 45 #[v]
  rw : Rwd w own v X
  out : ¬ own F
  old : ∀ k, own k → k < w.heap.size
  len : X.length ≤ 16
  more : ∀ x ∈ X, x.1.more.length ≤ 50000
  low : ∀ x, X.head? = some x → x.1.k ≠ 6
def dagg (x : Th × Value) : Value := .agg #[.int .i64 (x.1.k : Int), .int .i64 x.1.at_, .int .i64 x.1.tgt, x.2]
section
variable {w w' : World} {F : Nat} {own : Nat → Prop} {v : Value} {X : List (Th × Value)}
set_option maxHeartbeats 1000000 in
theorem rtop_empty (h : Dl w F own v X) (hX : X.length = 0) (k : Nat) : Calls Try.prog 25 #[.pointer (some ⟨F, 0, none⟩), .int .i64 (k : Int)] w fun e w' => e = .returned (.tuple #[.agg #[.int .i64 0, .int .i64 0, .int .i64 0, .slice none 0 0], .bool false]) ∧ Below w.heap.size w w' := by
  obtain ⟨A, c, hv⟩ := own_form h.rw.row
  rw [hX] at hv
  have hF := h.bk
  rw [hv] at hF
  have f0 := (hF.past (.cells #[.int .i64 0, .int .i64 0, .int .i64 0, .slice none 0 0] 70)).cell 0
  simp at f0
  clear h hv hF
  go_enter Try.func25, Try.ntmps25
  go_wp2_with (fail)
  have r0 := (Bk.fresh w 70 #[.int .i64 0, .int .i64 0, .int .i64 0, .slice none 0 0])
  have hB : Below w.heap.size w (w.alloc (.cells #[.int .i64 0, .int .i64 0, .int .i64 0, .slice none 0 0] 70)) := (Below.refl _ _).alloc (Nat.le_refl _) _
  obtain ⟨b, hb⟩ : ∃ b, w.heap.size = b := ⟨_, rfl⟩
  obtain ⟨w9, hw9⟩ : ∃ w9, w.alloc (.cells #[.int .i64 0, .int .i64 0, .int .i64 0, .slice none 0 0] 70) = w9 := ⟨_, rfl⟩
  rw [hb, hw9] at r0 hB
  rw [hw9, hb]
  have e0 := r0.cell 0
  have e1 := r0.cell 1
  have e2 := r0.cell 2
  have e3 := r0.cell 3
  simp at e0 e1 e2 e3
  replace hB := Lib.hid hB
  clear hw9 r0 f0 hb
  refine bodyPost_ret (by simp [results, Try.results25, go_sem, *]; rfl) rfl ?_
  exact ⟨rfl, hB.out⟩
set_option maxHeartbeats 1000000 in
theorem rtop_no {g c n m : Nat} {x : Th × Value} (h : Dl w F own v X) (hv : v = .slice (some ⟨g, 0, none⟩) n c) (hn : X.length = n) (hm : n = m + 1) (hx : X[m]? = some x) (k : Nat) (hk : x.1.k ≠ k) : Calls Try.prog 25 #[.pointer (some ⟨F, 0, none⟩), .int .i64 (k : Int)] w fun e w' => e = .returned (.tuple #[.agg #[.int .i64 0, .int .i64 0, .int .i64 0, .slice none 0 0], .bool false]) ∧ Below w.heap.size w w' := by
  have hne : ((x.1.k : Int) != (k : Int)) = true := by simp; omega
  have hF := h.bk
  rw [hv] at hF
  have hl := h.len
  rw [hn] at hl
  have hTd : Td w g (m * 4) x.1.k x.1.at_ x.1.tgt x.2 := by
    have hr := h.rw
    rw [hv] at hr
    subst hn
    exact hr.tp m x hx
  have e1 : IntKind.i64.wrap ((n : Int) - 1) = (m : Int) := by rw [IntKind.wrap_i64]; omega
  have i0 : ((n : Int) == 0) = false := by simp; omega
  have j0 : (0 : Int) ≤ m := by omega
  have j1 : (m : Int) < n := by omega
  have hgl : g < w.heap.size := by have := h.rw.row.lt g (by rw [hv]; rfl); exact this.2
  have hT2 := hTd.bel (Below.alloc (Below.refl w.heap.size w) (Nat.le_refl _) (.cells #[.int .i64 0, .int .i64 0, .int .i64 0, .slice none 0 0] 70)) hgl
  have f0 := (hF.past (.cells #[.int .i64 0, .int .i64 0, .int .i64 0, .slice none 0 0] 70)).cell 0
  simp at f0
  have t0 := hT2.c0
  have t1 := hT2.c1
  have t2 := hT2.c2
  have t3 := hT2.c3
  obtain ⟨kk, hkk⟩ : ∃ kk : Int, (x.1.k : Int) = kk := ⟨_, rfl⟩
  have hfr := Bk.fresh w 70 #[.int .i64 0, .int .i64 0, .int .i64 0, .slice none 0 0]
  have hB : Below w.heap.size w (w.alloc (.cells #[.int .i64 0, .int .i64 0, .int .i64 0, .slice none 0 0] 70)) := (Below.refl _ _).alloc (Nat.le_refl _) _
  have v0 := hfr.cell 0
  have v1 := hfr.cell 1
  have v2 := hfr.cell 2
  have v3 := hfr.cell 3
  have u0 := hfr.free 0
  have u1 := hfr.free 1
  have u2 := hfr.free 2
  have u3 := hfr.free 3
  simp at v0 v1 v2 v3
  replace hfr := Lib.hid hfr
  replace hB := Lib.hid hB
  replace hn := Lib.hid hn
  replace hl := Lib.hid hl
  replace hx := Lib.hid hx
  clear h hv hF hTd hT2 hgl
  replace hm := Lib.hid hm
  replace hk := Lib.hid hk
  replace hkk := Lib.hid hkk
  go_enter Try.func25, Try.ntmps25
  go_wp2_with (fail)
  clear f0 t0 t1 t2 t3 v0 v1 v2 v3 u0 u1 u2 u3 hfr hB e1 i0 j0 j1 hne
  obtain ⟨b, hb⟩ : ∃ b, w.heap.size = b := ⟨_, rfl⟩
  obtain ⟨w9, hw9⟩ : ∃ w9, w.alloc (.cells #[.int .i64 0, .int .i64 0, .int .i64 0, .slice none 0 0] 70) = w9 := ⟨_, rfl⟩
  have r0 := Bk.fresh w 70 #[.int .i64 0, .int .i64 0, .int .i64 0, .slice none 0 0]
  have hB : Below w.heap.size w (w.alloc (.cells #[.int .i64 0, .int .i64 0, .int .i64 0, .slice none 0 0] 70)) := (Below.refl _ _).alloc (Nat.le_refl _) _
  rw [hb, hw9] at r0 hB
  rw [hw9, hb]
  have e0 := r0.cell 0
  have e1 := r0.cell 1
  have e2 := r0.cell 2
  have e3 := r0.cell 3
  simp at e0 e1 e2 e3
  replace hB := Lib.hid hB
  clear hw9 r0 hb
  refine bodyPost_ret (by simp [results, Try.results25, go_sem, *]; rfl) rfl ?_
  exact ⟨rfl, hB.out⟩
set_option maxHeartbeats 1000000 in
theorem rtop_yes {g c n m : Nat} {x : Th × Value} (h : Dl w F own v X) (hv : v = .slice (some ⟨g, 0, none⟩) n c) (hn : X.length = n) (hm : n = m + 1) (hx : X[m]? = some x) : Calls Try.prog 25 #[.pointer (some ⟨F, 0, none⟩), .int .i64 (x.1.k : Int)] w fun e w' => e = .returned (.tuple #[dagg x, .bool true]) ∧ Below w.heap.size w w' := by
  have hne : ((x.1.k : Int) != (x.1.k : Int)) = false := by simp
  unfold dagg
  have hmm := h.rw.more x (List.mem_of_getElem? hx)
  have hF := h.bk
  rw [hv] at hF
  have hl := h.len
  rw [hn] at hl
  have hTd : Td w g (m * 4) x.1.k x.1.at_ x.1.tgt x.2 := by
    have hr := h.rw
    rw [hv] at hr
    subst hn
    exact hr.tp m x hx
  have e1 : IntKind.i64.wrap ((n : Int) - 1) = (m : Int) := by rw [IntKind.wrap_i64]; omega
  have i0 : ((n : Int) == 0) = false := by simp; omega
  have j0 : (0 : Int) ≤ m := by omega
  have j1 : (m : Int) < n := by omega
  have hgl : g < w.heap.size := by have := h.rw.row.lt g (by rw [hv]; rfl); exact this.2
  have hT2 := hTd.bel (Below.alloc (Below.refl w.heap.size w) (Nat.le_refl _) (.cells #[.int .i64 0, .int .i64 0, .int .i64 0, .slice none 0 0] 70)) hgl
  have f0 := (hF.past (.cells #[.int .i64 0, .int .i64 0, .int .i64 0, .slice none 0 0] 70)).cell 0
  simp at f0
  have t0 := hT2.c0
  have t1 := hT2.c1
  have t2 := hT2.c2
  have t3 := hT2.c3
  obtain ⟨kk, hkk⟩ : ∃ kk : Int, (x.1.k : Int) = kk := ⟨_, rfl⟩
  have hfr := Bk.fresh w 70 #[.int .i64 0, .int .i64 0, .int .i64 0, .slice none 0 0]
  have hB : Below w.heap.size w (w.alloc (.cells #[.int .i64 0, .int .i64 0, .int .i64 0, .slice none 0 0] 70)) := (Below.refl _ _).alloc (Nat.le_refl _) _
  have v0 := hfr.cell 0
  have v1 := hfr.cell 1
  have v2 := hfr.cell 2
  have v3 := hfr.cell 3
  have u0 := hfr.free 0
  have u1 := hfr.free 1
  have u2 := hfr.free 2
  have u3 := hfr.free 3
  simp at v0 v1 v2 v3
  replace hfr := Lib.hid hfr
  replace hB := Lib.hid hB
  replace hn := Lib.hid hn
  replace hl := Lib.hid hl
  replace hx := Lib.hid hx
  clear h hv hF hTd hT2 hgl
  rw [hkk] at t0 hne ⊢
  obtain ⟨ka, hka⟩ : ∃ ka, x.1.at_ = ka := ⟨_, rfl⟩
  obtain ⟨kt, hkt⟩ : ∃ ka, x.1.tgt = ka := ⟨_, rfl⟩
  obtain ⟨Am, cm, hkm⟩ := own_form hmm
  obtain ⟨lm, hlm⟩ : ∃ lm, x.1.more.length = lm := ⟨_, rfl⟩
  rw [hlm] at hkm
  clear hmm
  rw [hka] at t1 ⊢
  rw [hkt] at t2 ⊢
  rw [hkm] at t3 ⊢
  replace hm := Lib.hid hm
  replace hkk := Lib.hid hkk
  replace hka := Lib.hid hka
  replace hkt := Lib.hid hkt
  replace hkm := Lib.hid hkm
  replace hlm := Lib.hid hlm
  go_enter Try.func25, Try.ntmps25
  go_wp2_with (fail)
  clear f0 t0 t1 t2 t3 v0 v1 v2 v3 u0 u1 u2 u3 hfr hB e1 i0 j0 j1 hne
  obtain ⟨b, hb⟩ : ∃ b, w.heap.size = b := ⟨_, rfl⟩
  obtain ⟨w9, hw9⟩ : ∃ w9, w.alloc (.cells #[.int .i64 kk, .int .i64 ka, .int .i64 kt, .slice Am lm cm] 70) = w9 := ⟨_, rfl⟩
  have r0 := Bk.fresh w 70 #[.int .i64 kk, .int .i64 ka, .int .i64 kt, .slice Am lm cm]
  have hB : Below w.heap.size w (w.alloc (.cells #[.int .i64 kk, .int .i64 ka, .int .i64 kt, .slice Am lm cm] 70)) := (Below.refl _ _).alloc (Nat.le_refl _) _
  rw [hb, hw9] at r0 hB
  rw [hw9, hb]
  have e0 := r0.cell 0
  have e1 := r0.cell 1
  have e2 := r0.cell 2
  have e3 := r0.cell 3
  simp at e0 e1 e2 e3
  replace hB := Lib.hid hB
  clear hw9 r0 hb
  refine bodyPost_ret (by simp [results, Try.results25, go_sem, *]; rfl) rfl ?_
  exact ⟨rfl, hB.out⟩
end
end Go.Proofs.Ytmfffaocmboelaa
