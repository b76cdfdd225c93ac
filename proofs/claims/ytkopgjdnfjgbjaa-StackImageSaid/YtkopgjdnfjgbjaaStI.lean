import Derived.Test.YtkopgjdnfjgbjaaStG
import Derived.Test.YtkopgjdnfjgbjaaStH
namespace Go.Proofs.Ytkopgjdnfjgbjaa
open Go.RowKit
set_option linter.unusedVariables false
set_option linter.unusedSimpArgs false
/-! shown -/
theorem layOf4_layOk (d r : Int) : layOk (layOf4 d r).k (layOf4 d r).s (layOf4 d r).u (layOf4 d r).d (layOf4 d r).r := by
  have h := layOf4_ok d r
  obtain ⟨⟨a1, a2, a3⟩, ⟨b1, b2⟩, ⟨c1, c2, c3⟩, ⟨d1, d2, d3⟩, ⟨e1, e2, e3⟩⟩ := h
  unfold layOk sizeOk
  omega
/-- an image of law 4's layout -/
theorem new4 (d r : Int) (w : World) : Calls Try.prog 10 #[LV (layOf4 d r)] w fun e w' => ∃ (p b : Nat), e = .returned (.tuple #[.pointer (some ⟨p, 0, none⟩), .int .i64 0]) ∧ Im w' p b (layOf4 d r) (List.replicate (layOf4 d r).b6 0) false false ∧ w.heap.size ≤ p ∧ w.heap.size ≤ b ∧ Below w.heap.size w w' := by
  refine (new_any _ _ _ _ _ w).mono fun e w' h => ?_
  obtain ⟨L, p, b, h1, h2, h3, h4, h5, he, hi, h6, h7, h8⟩ := h.1 (layOf4_layOk d r)
  have hL : L = layOf4 d r := by
    cases L
    simp only at h1 h2 h3 h4 h5
    have e1 := Int.ofNat.inj h1
    have e2 := Int.ofNat.inj h2
    have e3 := Int.ofNat.inj h3
    have e4 := Int.ofNat.inj h4
    have e5 := Int.ofNat.inj h5
    subst e1 e2 e3 e4 e5
    rfl
  subst hL
  exact ⟨p, b, he, hi, h6, h7, h8⟩
theorem lay00 : layOf4 0 0 = ⟨16384, 0, 256, 64, 64⟩ := by simp [layOf4, pickN]
theorem room00 : roomOf (layOf4 0 0) 4 = 8 := by rw [lay00]; simp [roomOf, Lay.beg, Lay.b2, Lay.b3, Lay.b4, Lay.b5]
set_option maxHeartbeats 4000000 in
theorem shown4 (w : World) : Calls Try.prog 8 #[] w fun e w' => e = .returned (.bool true) ∧ Below w.heap.size w w' := by
  obtain ⟨L, hL⟩ : ∃ L, layOf4 0 0 = L := ⟨_, rfl⟩
  have hr : Reg L 4 (L.beg 4) 8 := by
    have := reg_lies (layOf4_ok 0 0) 4 (.inl rfl)
    rw [room00, hL] at this
    exact this
  have hN : ∀ w1 : World, Calls Try.prog 10 #[LV L] w1 fun e w' => ∃ (p b : Nat), e = .returned (.tuple #[.pointer (some ⟨p, 0, none⟩), .int .i64 0]) ∧ Im w' p b L (List.replicate L.b6 0) false false ∧ w1.heap.size ≤ p ∧ w1.heap.size ≤ b ∧ Below w1.heap.size w1 w' := by
    intro w1
    have := new4 0 0 w1
    rw [hL] at this
    exact this
  replace hN := Lib.hid hN
  have hrm : roomOf L 4 = 8 := by rw [← hL]; exact room00
  replace hrm := Lib.hid hrm
  replace hL := Lib.hid hL
  have hlay : ∀ w1 : World, Calls Try.prog 9 #[.int .i64 0, .int .i64 0] w1 fun e' w' => e' = .returned (LV L) ∧ Below w1.heap.size w1 w' := by
    intro w1
    have := layout4_any 0 0 w1 (by unfold inI; decide) (by unfold inI; decide)
    rw [hL.out] at this
    exact this
  replace hlay := Lib.hid hlay
  go_enter Try.func8, Try.ntmps8
  go_wp2_with (fail)
  refine (hlay.out _).mono ?_
  rintro e w1 ⟨rfl, hb1⟩
  go_wp2_with (fail)
  refine (hN.out w1).mono ?_
  rintro e w2 ⟨ip, b, rfl, hI, h1, h2, hb2⟩
  replace hI := Lib.hid hI
  go_wp2_with (fail)
  refine (stnew_data hI.out).mono ?_
  rintro e w3 ⟨q, rfl, h3, hS, hb3⟩
  rw [hrm.out] at hS
  replace hI := Lib.hid (hI.out.bel hb3)
  replace hS := Lib.hid hS
  replace hb3 := hb2.trans (hb3.mono hb2.size)
  go_wp2_with (fail)
  refine (room_any hS.out).mono ?_
  rintro e w4 ⟨rfl, hw4⟩
  have hw4 := hw4.symm
  subst hw4
  go_wp2_with (fail)
  have hI4 := hI.out.past (.cells #[.int .i64 1, .int .i64 2, .int .i64 3] 3)
  have hB4 := (Below.refl w3.heap.size w3).alloc (Nat.le_refl _) (.cells #[.int .i64 1, .int .i64 2, .int .i64 3] 3)
  have hX4 := Bk.fresh w3 3 #[.int .i64 1, .int .i64 2, .int .i64 3]
  obtain ⟨V, hV⟩ : ∃ V, w3.alloc (.cells #[.int .i64 1, .int .i64 2, .int .i64 3] 3) = V := ⟨_, rfl⟩
  rw [hV] at hI4 hB4 hX4 ⊢
  have hS4 := hS.out.bel hB4
  obtain ⟨g, hg⟩ : ∃ g, w3.heap.size = g := ⟨_, rfl⟩
  rw [hg] at hX4 ⊢
  have hrow : Rowd V (some ⟨g, 0, none⟩) g 0 [1, 2, 3] := by
    intro i hi
    refine ⟨rfl, ?_⟩
    rw [hX4.cell]
    match i, hi with
    | 0, _ => rfl
    | 1, _ => rfl
    | 2, _ => rfl
  have hpush := push_yes hI4 hS4 hr (some ⟨g, 0, none⟩) 3 g 0 [1, 2, 3] (by decide) hrow
  refine hpush.mono ?_
  rintro e w5 ⟨rfl, hI5, hS5, hD5⟩
  obtain ⟨B1, hB1⟩ : ∃ B1, laid (List.replicate L.b6 0) (L.beg 4) 0 [1, 2, 3] = B1 := ⟨_, rfl⟩
  rw [hB1] at hI5
  have hS5 : Stk w5 q ip (L.beg 4) 8 3 1 2 := hS5
  have hb5 : Below w.heap.size w w5 := by
    have s1 := hb1.size
    have s2 := hb2.size
    have s3 := hb3.size
    have Hb3 : Below w.heap.size w w3 := hb1.trans (hb3.mono s1)
    have Hb4 : Below w.heap.size w V := by
      rw [← hV]
      exact Hb3.alloc Hb3.size _
    exact Hb4.trans (hD5.below (Nat.le_trans s1 (Nat.le_trans s2 h3)) (Nat.le_trans s1 h2) Hb4.size)
  replace hI := Lib.hid hI5
  replace hS := Lib.hid hS5
  clear hpush hI4 hS4 hX4 hrow
  go_wp2_with (fail)
  have hlen : (L.beg 4) + 8 * 8 ≤ (List.replicate L.b6 (0 : UInt8)).length := by
    have := (hr.even hI.out.ok).2.1
    simpa using this
  have hlen1 : B1.length = L.b6 := by
    rw [← hB1, laid_len _ _ _ _ (by simp only [List.length_cons, List.length_nil]; omega)]
    simp
  have i123 : ∀ v ∈ [(1 : Int), 2, 3], isI v := by unfold isI; decide
  have c0 : cel B1 (L.beg 4 + 8 * 0) = 1 := by
    rw [← hB1]
    exact laid_cel (L.beg 4) [1, 2, 3] _ 0 0 (by simp only [List.length_cons, List.length_nil]; omega) i123 (by decide)
  have c1 : cel B1 (L.beg 4 + 8 * 1) = 2 := by
    rw [← hB1]
    exact laid_cel (L.beg 4) [1, 2, 3] _ 0 1 (by simp only [List.length_cons, List.length_nil]; omega) i123 (by decide)
  have c2 : cel B1 (L.beg 4 + 8 * 2) = 3 := by
    rw [← hB1]
    exact laid_cel (L.beg 4) [1, 2, 3] _ 0 2 (by simp only [List.length_cons, List.length_nil]; omega) i123 (by decide)
  have hroll := roll_yes hI.out hS.out hr 2 0 (by decide) (by decide) 1 c0
  have hlist : splice (slide B1 (L.beg 4) 0 (3 - 1 - 0)) (L.beg 4 + 8 * (3 - 1)) (by8 1) = laid B1 (L.beg 4) 0 [2, 3, 1] := by
    have := roll_laid (L.beg 4) B1 0 3 (by decide) (by simp at hlen; omega)
    rw [c0] at this
    rw [this]
    show laid B1 (L.beg 4) 0 [cel B1 (L.beg 4 + 8 * 1), cel B1 (L.beg 4 + 8 * 2), 1] = _
    rw [c1, c2]
  rw [hlist] at hroll
  refine hroll.mono ?_
  rintro e w6 ⟨rfl, hI6, hO6⟩
  have zb : w.heap.size ≤ b := Nat.le_trans hb1.size h2
  have zq : w.heap.size ≤ q := Nat.le_trans hb1.size (Nat.le_trans hb2.size h3)
  have hS6 := hS.out.only hO6 (hI.out.notStk hS.out).2
  have hb6 : Below w.heap.size w w6 := hb5.trans (hO6.below zb hb5.size)
  have hcels : cels (laid B1 (L.beg 4) 0 [2, 3, 1]) (L.beg 4) 3 = [2, 3, 1] := by
    have i231 : ∀ v ∈ [(2 : Int), 3, 1], isI v := by unfold isI; decide
    rw [cels_laid (L.beg 4) B1 0 3 [2, 3, 1] (by simp only [List.length_cons, List.length_nil]; simp at hlen; omega) (by decide) i231]
    simp [cels]
  have hpop : cel (laid B1 (L.beg 4) 0 [2, 3, 1]) (L.beg 4 + 8 * 2) = 1 := by
    have i231 : ∀ v ∈ [(2 : Int), 3, 1], isI v := by unfold isI; decide
    exact laid_cel (L.beg 4) [2, 3, 1] _ 0 2 (by simp only [List.length_cons, List.length_nil]; simp at hlen; omega) i231 (by decide)
  obtain ⟨B2, hB2⟩ : ∃ B2, laid B1 (L.beg 4) 0 [2, 3, 1] = B2 := ⟨_, rfl⟩
  rw [hB2] at hI6 hcels hpop
  clear hroll hlist hB2 c0 c1 c2 hb1 hb2 hb3 hD5 hB4 hB1 hlen hlen1
  replace hI := Lib.hid hI6
  replace hS := Lib.hid hS6
  clear hI6 hS6
  go_wp2_with (fail)
  refine (cells_any hI.out hS.out hr).mono ?_
  rintro e w7 ⟨g2, rfl, z7, hX7, hb7⟩
  rw [hcels] at hX7
  replace hI := Lib.hid (hI.out.bel hb7)
  replace hS := Lib.hid (hS.out.bel hb7)
  have Hb7 : Below w.heap.size w w7 := hb6.trans (hb7.mono hb6.size)
  go_wp2_with (fail)
  refine (pop_yes hI.out hS.out hr 1 hpop).mono ?_
  rintro e w8 ⟨rfl, hS8, hO8⟩
  have hne := hI.out.notStk hS.out
  replace hI := Lib.hid (hI.out.only hO8 hne.1.symm hne.2.symm)
  have hX8 := hO8.bk hX7 (hS.out.st.ne hX7 (by decide)).symm
  have Hb8 : Below w.heap.size w w8 := Hb7.trans (hO8.below zq Hb7.size)
  replace hS := Lib.hid hS8
  clear hS8
  go_wp2_with (fail)
  refine (peek_no hS.out 2 (by decide)).mono ?_
  rintro e w9 ⟨rfl, hb9⟩
  have hX9 := hX8.kept hb9 hX8.lt
  replace hS := Lib.hid (hS.out.bel hb9)
  have Hb9 : Below w.heap.size w w9 := Hb8.trans (hb9.mono Hb8.size)
  clear hX7 hX8 hb7 hb9
  go_wp2_with (fail)
  have hX10 := hX9.past (.cells #[.int .i64 2, .int .i64 3, .int .i64 1] 3)
  have hB10 := (Below.refl w9.heap.size w9).alloc (Nat.le_refl _) (.cells #[.int .i64 2, .int .i64 3, .int .i64 1] 3)
  have hY10 := Bk.fresh w9 3 #[.int .i64 2, .int .i64 3, .int .i64 1]
  obtain ⟨V2, hV2⟩ : ∃ V2, w9.alloc (.cells #[.int .i64 2, .int .i64 3, .int .i64 1] 3) = V2 := ⟨_, rfl⟩
  rw [hV2] at hX10 hB10 hY10 ⊢
  replace hS := Lib.hid (hS.out.bel hB10)
  have Hb10 : Below w.heap.size w V2 := Hb9.trans (hB10.mono Hb9.size)
  obtain ⟨g3, hg3⟩ : ∃ g3, w9.heap.size = g3 := ⟨_, rfl⟩
  rw [hg3] at hY10 ⊢
  have r1 : Rowd V2 (some ⟨g2, 0, none⟩) g2 0 [2, 3, 1] := by
    intro i hi
    refine ⟨rfl, ?_⟩
    rw [hX10.cell]
    match i, hi with
    | 0, _ => rfl
    | 1, _ => rfl
    | 2, _ => rfl
  have r2 : Rowd V2 (some ⟨g3, 0, none⟩) g3 0 [2, 3, 1] := by
    intro i hi
    refine ⟨rfl, ?_⟩
    rw [hY10.cell]
    match i, hi with
    | 0, _ => rfl
    | 1, _ => rfl
    | 2, _ => rfl
  refine (same_any (some ⟨g2, 0, none⟩) (some ⟨g3, 0, none⟩) 3 3 3 3 g2 0 g3 0 [2, 3, 1] [2, 3, 1] V2 r1 r2 rfl rfl (by decide)).mono ?_
  rintro e w11 ⟨he, k, hw11⟩
  have he2 : e = .returned (.bool true) := by rw [he]; rfl
  subst he2
  clear he
  have hb11 : Below V2.heap.size V2 w11 := by rw [hw11]; exact ⟨rfl, rfl, rfl, Nat.le_refl _, fun _ _ => rfl⟩
  replace hS := Lib.hid (hS.out.bel hb11)
  have Hb11 : Below w.heap.size w w11 := Hb10.trans (hb11.mono Hb10.size)
  clear hw11 hX10 hB10 hY10 hV2 r1 r2 hX9 hg3 hb11
  go_wp2_with (fail)
  refine (depth_any hS.out).mono ?_
  rintro e w12 ⟨rfl, hw12⟩
  have hw12 := hw12.symm
  subst hw12
  go_wp2_with (fail)
  go_returns
  exact ⟨rfl, Hb11⟩
end Go.Proofs.Ytkopgjdnfjgbjaa
