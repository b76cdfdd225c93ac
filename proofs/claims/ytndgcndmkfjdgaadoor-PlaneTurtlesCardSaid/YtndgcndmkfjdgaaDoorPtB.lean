import Derived.Test.YtndgcndmkfjdgaaDoorPtA
import Derived.Test.YtndgcndmkfjdgaaDoorPostOps10
namespace Go.Proofs.YtndgcndmkfjdgaaDoor
open Go.RowKit Go.Extern.Stop Go.Stop Go.Extern
set_option linter.unusedVariables false
set_option linter.unusedSimpArgs false
/-! PlaneTurtles: walked -/
section
variable {w W : World} {t : Nat} {V : Value} {s : St}
theorem fwd_one (T : TtS W w.heap.size t V s) (hB : Below w.heap.size w W) (ht : w.heap.size ≤ t) (d : Int) (hs : Sm (toZ s.a s.v d) 16777216) (h4 : s.ms.length < 4096) :
    Calls Tryd.prog 21 #[.pointer (some ⟨t, 0, none⟩), .int .i64 d] W fun e W' => e = .returned (.int .i64 0) ∧ ∃ V', TtS W' w.heap.size t V' (fwdS s d) ∧ Below w.heap.size w W' := by
  by_cases h : s.dn = true ∧ d ≠ 0
  · have T' : Tt W w.heap.size t V s.a s.v true s.ms := h.1 ▸ T
    refine (tfwd_draw T' d hs h.2 h4 hB.size).mono ?_
    rintro e W' ⟨rfl, V', hT, hd, _⟩
    refine ⟨rfl, V', ?_, hB.trans (hd.below ht (fun k hk => own_ge T.row k hk) hB.size)⟩
    unfold TtS fwdS
    rw [if_pos h]
    simp only [h.1]
    exact hT
  · have h' : s.dn = false ∨ d = 0 := by
      by_cases h1 : s.dn = true
      · exact .inr (Classical.byContradiction fun h2 => h ⟨h1, h2⟩)
      · exact .inl (by simpa using h1)
    refine (tfwd_go T d hs h').mono ?_
    rintro e W' ⟨rfl, hT, hd⟩
    refine ⟨rfl, V, ?_, hB.trans (hd.below ht (fun k hk => own_ge T.row k hk) hB.size)⟩
    unfold TtS fwdS
    rw [if_neg h]
    exact hT
theorem turn_one' (T : TtS W w.heap.size t V s) (hB : Below w.heap.size w W) (ht : w.heap.size ≤ t) (n : Int) :
    Calls Tryd.prog 28 #[.pointer (some ⟨t, 0, none⟩), .int .i64 n] W fun e W' => e = .returned (.tuple #[]) ∧ TtS W' w.heap.size t V ⟨s.a, turnZ s.v n, s.dn, s.ms⟩ ∧ Below w.heap.size w W' := by
  refine (tturn T n).mono ?_
  rintro e W' ⟨rfl, hT, hO⟩
  exact ⟨rfl, hT, hB.trans ((Trd.of_only (row := V.ownBlock) hO).below ht (fun k hk => own_ge T.row k hk) hB.size)⟩
theorem pen_one (T : TtS W w.heap.size t V s) (hB : Below w.heap.size w W) (ht : w.heap.size ≤ t) (d : Bool) :
    Calls Tryd.prog 22 #[.pointer (some ⟨t, 0, none⟩), .bool d] W fun e W' => e = .returned (.tuple #[]) ∧ TtS W' w.heap.size t V ⟨s.a, s.v, d, s.ms⟩ ∧ Below w.heap.size w W' := by
  refine (tpen T d).mono ?_
  rintro e W' ⟨rfl, hT, hO⟩
  exact ⟨rfl, hT, hB.trans ((Trd.of_only (row := V.ownBlock) hO).below ht (fun k hk => own_ge T.row k hk) hB.size)⟩
end
/-- the steps' numbers as a function -/
def Steps (W : World) (A : Option Addr) (n : Nat) (f : Nat → Int × Int) : Prop := ∀ i, i < n → ∃ (b off : Nat), A = some ⟨b, off, none⟩ ∧ b < W.heap.size ∧ W.cell? ⟨b, off + i * 3 + 1, none⟩ = some (.int .i64 (f i).1) ∧ W.cell? ⟨b, off + i * 3 + 2, none⟩ = some (.int .i64 (f i).2) ∧ (-9223372036854775808 ≤ (f i).1 ∧ (f i).1 ≤ 9223372036854775807) ∧ (-9223372036854775808 ≤ (f i).2 ∧ (f i).2 ≤ 9223372036854775807)
theorem steps_of {W : World} {A : Option Addr} {n : Nat} (h : Ops10 W A n) : ∃ f, Steps W A n f := by
  classical
  have h2 : ∀ i, ∃ p : Int × Int, i < n → ∃ (b off : Nat), A = some ⟨b, off, none⟩ ∧ b < W.heap.size ∧ W.cell? ⟨b, off + i * 3 + 1, none⟩ = some (.int .i64 p.1) ∧ W.cell? ⟨b, off + i * 3 + 2, none⟩ = some (.int .i64 p.2) ∧ (-9223372036854775808 ≤ p.1 ∧ p.1 ≤ 9223372036854775807) ∧ (-9223372036854775808 ≤ p.2 ∧ p.2 ≤ 9223372036854775807) := fun i => by
    by_cases hi : i < n
    · obtain ⟨b, off, v0, v1, v2, e, hb, c0, c1, c2, g0, g1, g2⟩ := h.2 i hi
      exact ⟨(v1, v2), fun _ => ⟨b, off, e, hb, c1, c2, g1, g2⟩⟩
    · exact ⟨(0, 0), fun hh => absurd hh hi⟩
  exact ⟨fun i => (h2 i).choose, fun i hi => (h2 i).choose_spec hi⟩
theorem Steps.kept {W W' : World} {A : Option Addr} {n : Nat} {f : Nat → Int × Int} (h : Steps W A n f) (hb : Below W.heap.size W W') : Steps W' A n f := fun i hi => by
  obtain ⟨b, off, e, hl, c1, c2, g⟩ := h i hi
  exact ⟨b, off, e, Nat.lt_of_lt_of_le hl hb.size, (hb.cell (p := ⟨b, off + i * 3 + 1, none⟩) hl).trans c1, (hb.cell (p := ⟨b, off + i * 3 + 2, none⟩) hl).trans c2, g⟩
set_option maxRecDepth 100000 in
set_option maxHeartbeats 8000000 in
theorem walked_any (A : Option Addr) (n c : Nat) (first : Int) (f : Nat → Int × Int) (w : World) (hn : n ≤ 140737488351232) (h : Steps w A n f) :
    Calls Tryd.prog 42 #[.int .i64 first, .slice A n c] w fun e w' => ∃ t V, e = .returned (.pointer (some ⟨t, 0, none⟩)) ∧ TtS w' w.heap.size t V (rotS first (witer f st0 (min n 60))) ∧ Below w.heap.size w w' := by
  obtain ⟨S9, hS9⟩ : ∃ S9, rotS first (witer f st0 (min n 60)) = S9 := ⟨_, rfl⟩
  rw [hS9]
  have hn4 : (n : Int) ≤ 140737488351232 := by omega
  have hwb := fun j => wb_iter (wb_start first) f j
  have hst := rot_s0 first
  have hrot := fun j => rot_iter first f st0 j
  obtain ⟨S0, hS0⟩ : ∃ S0, rotS first st0 = S0 := ⟨_, rfl⟩
  rw [hS0] at hwb hst hrot
  replace h := Lib.hid h
  replace hwb := Lib.hid hwb
  replace hst := Lib.hid hst
  replace hrot := Lib.hid hrot
  replace hS9 := Lib.hid hS9
  clear hS0
  have htw := Lib.hid (tnew w)
  have htt : w.heap.size ≤ w.heap.size := Nat.le_refl _
  obtain ⟨t, ht⟩ : ∃ t, w.heap.size = t := ⟨_, rfl⟩
  have htg : w.heap.size ≤ t := by rw [← ht]; exact Nat.le_refl _
  replace htg := Lib.hid htg
  clear htt
  go_enter Tryd.func42, Tryd.ntmps42
  go_wp2_with (fail)
  refine htw.out.mono ?_
  rintro e w2 ⟨rfl, T0, hb⟩
  have T1 : TtS w2 w.heap.size t (.slice none 0 0) ⟨(0, 0), (1, 0), true, []⟩ := by rw [← ht]; exact T0
  have htn := Lib.hid (turn_one' T1 hb htg.out first)
  clear T0 T1 hb htw
  replace ht := Lib.hid ht
  go_wp2_with (fail)
  try rw [ht.out]
  refine htn.out.mono ?_
  rintro e w3 ⟨rfl, T2, hb⟩
  have hT : Hid (∃ V, TtS w3 w.heap.size t V (witer f S0 0) ∧ Below w.heap.size w w3) := Lib.hid ⟨_, by show TtS w3 w.heap.size t _ S0; rw [hst.out]; exact T2, hb⟩
  clear T2 hb htn
  go_wp2_with (fail)
  go_loopw [6] (fun x_ wr => ∃ j : Nat, x_ = .int .i64 j ∧ j ≤ n ∧ j ≤ 60 ∧ Hid (∃ V, TtS wr w.heap.size t V (witer f S0 j) ∧ Below w.heap.size w wr)) (fun x_ _ => n - (intOf x_).toNat)
  case atStart => exact ⟨0, rfl, Nat.zero_le _, by decide, hT⟩
  case round =>
    obtain ⟨j, rfl, hj1, hj2, hQ⟩ := hrel
    clear hT
    by_cases hj : j < n ∧ j < 60
    · have j0 : (j : Int) < (n : Int) := by omega
      have j1 : (j : Int) < 60 := by omega
      obtain ⟨V, T, hW⟩ := hQ.out
      obtain ⟨b, off, rfl, hbl, o1, o2, hv1, hv2⟩ := h.out j hj.1
      replace o1 := (hW.cell (p := ⟨b, off + j * 3 + 1, none⟩) hbl).trans o1
      replace o2 := (hW.cell (p := ⟨b, off + j * 3 + 2, none⟩) hbl).trans o2
      have hnx : witer f S0 (j + 1) = wstep (witer f S0 j) (pickN (f j).1 4) (f j).2 := rfl
      have hwj := hwb.out j
      have hwn := hwb.out (j + 1)
      obtain ⟨s, hs⟩ : ∃ s, witer f S0 j = s := ⟨_, rfl⟩
      rw [hs] at T hnx hwj
      obtain ⟨⟨v1, v2⟩, hf⟩ : ∃ p, f j = p := ⟨_, rfl⟩
      rw [hf] at hnx o1 o2 hv1 hv2
      simp only at hnx o1 o2 hv1 hv2
      have hpq := Lib.hid (fun W => pick_any v1 4 W hv1.1 hv1.2 (by decide) (by decide))
      have e4 : (4 : Int).toNat = 4 := rfl
      rw [e4] at hpq
      have hq := pickN_lt v1 4 (by decide)
      obtain ⟨q, hqq⟩ : ∃ q, pickN v1 4 = q := ⟨_, rfl⟩
      rw [hqq] at hpq hnx hq
      rw [hnx] at hwn
      unfold wstep at hwn
      replace hnx := Lib.hid hnx
      replace hwj := Lib.hid hwj
      replace hW := Lib.hid hW
      replace T := Lib.hid T
      replace hQ := Lib.hid hQ
      clear hqq hs hf hv1 hbl e4
      go_wp2_with (fail)
      refine (hpq.out _).mono ?_
      rintro e w8 ⟨rfl, rfl⟩
      clear hpq o1
      by_cases hq1 : q ≤ 1
      · rw [if_pos hq1] at hwn
        have hpd := Lib.hid (fun W => pick_any v2 21 W hv2.1 hv2.2 (by decide) (by decide))
        have e21 : (21 : Int).toNat = 21 := rfl
        rw [e21] at hpd
        have hp := pickN_lt v2 21 (by decide)
        have hnx2 : witer f S0 (j + 1) = fwdS s ((pickN v2 21 : Int) - 10) := by rw [hnx.out]; unfold wstep; rw [if_pos hq1]
        obtain ⟨d, hd⟩ : ∃ d, pickN v2 21 = d := ⟨_, rfl⟩
        rw [hd] at hpd hp hnx2 hwn
        have hp4 : (d : Int) < 21 := by omega
        have hfw := fwd_one T.out hW.out htg.out ((d : Int) - 10) (by have := hwn.1; unfold fwdS at this; simp only at this; unfold Sm at *; omega) (by have := hwj.out.2.2; omega)
        rw [← hnx2] at hfw
        replace hfw := Lib.hid hfw
        replace hwn := Lib.hid hwn
        replace hnx2 := Lib.hid hnx2
        clear e21 hd hp hv2
        rcases (by omega : q = 0 ∨ q = 1) with rfl | rfl
        all_goals
          go_wp2_with (fail)
          refine (hpd.out _).mono ?_
          rintro e w9 ⟨rfl, rfl⟩
          go_wp2_with (fail)
          refine hfw.out.mono ?_
          rintro e w9 ⟨rfl, V9, hT9, hB9⟩
          clear hfw T hW o2
          go_wp2_with (fail)
          exact ⟨⟨j + 1, rfl, by omega, by omega, Lib.hid ⟨_, hT9, hB9⟩⟩, by simp [intOf]; omega⟩
      · by_cases hq2 : q = 2
        · subst hq2
          have hnx2 : witer f S0 (j + 1) = ⟨s.a, turnZ s.v v2, s.dn, s.ms⟩ := by rw [hnx.out]; unfold wstep; rw [if_neg hq1, if_pos rfl]
          have hfw := turn_one' T.out hW.out htg.out v2
          rw [← hnx2] at hfw
          replace hfw := Lib.hid hfw
          replace hnx2 := Lib.hid hnx2
          clear hwn hv2
          go_wp2_with (fail)
          refine hfw.out.mono ?_
          rintro e w9 ⟨rfl, hT9, hB9⟩
          clear hfw T hW o2
          go_wp2_with (fail)
          exact ⟨⟨j + 1, rfl, by omega, by omega, Lib.hid ⟨_, hT9, hB9⟩⟩, by simp [intOf]; omega⟩
        · obtain rfl : q = 3 := by omega
          have hnx2 : witer f S0 (j + 1) = ⟨s.a, s.v, v2.tmod 3 != 0, s.ms⟩ := by rw [hnx.out]; unfold wstep; rw [if_neg hq1, if_neg hq2]
          obtain ⟨dd, hdd⟩ : ∃ dd, (v2.tmod 3 != 0) = dd := ⟨_, rfl⟩
          rw [hdd] at hnx2
          have hfw := pen_one T.out hW.out htg.out dd
          rw [← hnx2] at hfw
          replace hfw := Lib.hid hfw
          replace hnx2 := Lib.hid hnx2
          clear hwn hv2
          go_wp2_with (fail)
          refine hfw.out.mono ?_
          rintro e w9 ⟨rfl, hT9, hB9⟩
          clear hfw T hW o2
          go_wp2_with (fail)
          exact ⟨⟨j + 1, rfl, by omega, by omega, Lib.hid ⟨_, hT9, hB9⟩⟩, by simp [intOf]; omega⟩
    · have hcond : (¬ (j : Int) < (n : Int)) ∨ ((j : Int) < (n : Int) ∧ ¬ (j : Int) < 60) := by omega
      have hjm : j = min n 60 := by omega
      obtain ⟨V, T, hW⟩ := hQ.out
      have hT9 : TtS wr w.heap.size t V S9 := by rw [← hS9.out, ← hjm, ← hrot.out j]; exact T
      replace hT9 := Lib.hid hT9
      replace hW := Lib.hid hW
      clear T hQ hjm hj
      rcases hcond with h1 | ⟨h1, h2⟩
      all_goals
        go_wp2_with (fail)
        go_returns
        first | exact ⟨_, _, rfl, hT9.out, hW.out⟩ | exact ⟨t, rfl, ⟨V, hT9.out⟩, hW.out⟩
end Go.Proofs.YtndgcndmkfjdgaaDoor
