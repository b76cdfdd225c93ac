import Derived.Test.YtkopgjdnfjgbjaaStM
import Derived.Test.YtkopgjdnfjgbjaaStN
namespace Go.Proofs.Ytkopgjdnfjgbjaa
open Go.RowKit
set_option linter.unusedVariables false
set_option linter.unusedSimpArgs false
/-! the document's stack: its operations -/
/-- vs laid over xs from d on -/
def over (xs : List Int) (d : Nat) (vs : List Int) : List Int := xs.take d ++ (vs ++ xs.drop (d + vs.length))
theorem over_len (xs : List Int) (d : Nat) (vs : List Int) (h : d + vs.length ≤ xs.length) : (over xs d vs).length = xs.length := by
  simp [over]; omega
theorem over_nil (xs : List Int) (d : Nat) : over xs d [] = xs := by simp [over]
theorem over_step (xs : List Int) (d : Nat) (vs : List Int) (v : Int) (h : d + vs.length < xs.length) : (over xs d vs).set (d + vs.length) v = over xs d (vs ++ [v]) := by
  have ht : (xs.take d).length = d := by simp; omega
  unfold over
  rw [List.set_append, if_neg (by omega), ht, show d + vs.length - d = vs.length from by omega, List.set_append, if_neg (Nat.lt_irrefl _), Nat.sub_self]
  rw [List.drop_eq_getElem_cons h, List.set_cons_zero]
  simp [Nat.add_assoc]
def sl (xs : List Int) (i k : Nat) : List Int := xs.take i ++ ((xs.drop (i + 1)).take (k - i) ++ xs.drop k)
theorem sl_len (xs : List Int) (i k : Nat) (h1 : i ≤ k) (h2 : k < xs.length) : (sl xs i k).length = xs.length := by simp [sl]; omega
theorem sl_start (xs : List Int) (i : Nat) : sl xs i i = xs := by simp [sl]
theorem sl_put (xs : List Int) (i k : Nat) (v : Int) (h1 : i ≤ k) (h2 : k < xs.length) : (sl xs i k).set k v = xs.take i ++ (((xs.drop (i + 1)).take (k - i) ++ [v]) ++ xs.drop (k + 1)) := by
  have ht : (xs.take i).length = i := by simp; omega
  have hm : ((xs.drop (i + 1)).take (k - i)).length = k - i := by simp; omega
  unfold sl
  rw [List.set_append, if_neg (by omega), ht, List.set_append, if_neg (by omega), hm, Nat.sub_self, List.drop_eq_getElem_cons h2, List.set_cons_zero]
  simp
theorem sl_at (xs : List Int) (i k : Nat) (h1 : i ≤ k) (h2 : k + 1 < xs.length) : (sl xs i k)[k + 1]? = xs[k + 1]? := by
  have ht : (xs.take i).length = i := by simp; omega
  have hm : ((xs.drop (i + 1)).take (k - i)).length = k - i := by simp; omega
  unfold sl
  rw [List.getElem?_append_right (by omega), ht, List.getElem?_append_right (by omega), hm, List.getElem?_drop]
  congr 1; omega
theorem sl_step (xs : List Int) (i k : Nat) (h1 : i ≤ k) (h2 : k + 1 < xs.length) : (sl xs i k).set k xs[k + 1] = sl xs i (k + 1) := by
  rw [sl_put xs i k _ h1 (by omega)]
  unfold sl
  congr 2
  rw [show k + 1 - i = (k - i) + 1 from by omega, List.take_add_one, List.getElem?_drop, show i + 1 + (k - i) = k + 1 from by omega, List.getElem?_eq_getElem h2]
  rfl
section
variable {w W : World} {p g d : Nat} {xs : List Int} {un ov : Int}
theorem Rf.c0 (h : Rf w p g xs d un ov) : w.cell? ⟨p, 0, none⟩ = some (.slice (some ⟨g, 0, none⟩) xs.length xs.length) := h.st.cell 0
theorem Rf.c1 (h : Rf w p g xs d un ov) : w.cell? ⟨p, 1, none⟩ = some (.int .i64 d) := h.st.cell 1
theorem Rf.c2 (h : Rf w p g xs d un ov) : w.cell? ⟨p, 2, none⟩ = some (.int .i64 un) := h.st.cell 2
theorem Rf.c3 (h : Rf w p g xs d un ov) : w.cell? ⟨p, 3, none⟩ = some (.int .i64 ov) := h.st.cell 3
theorem Rf.at (h : Rf w p g xs d un ov) (i : Nat) (v : Int) (hv : xs[i]? = some v) : w.cell? ⟨g, i, none⟩ = some (.int .i64 v) := by
  rw [h.row.cell]; simp [i64s, hv]
theorem Rf.ne (h : Rf w p g xs d un ov) : p ≠ g := h.st.ne h.row (by decide)
theorem Rf.set (h : Rf w p g xs d un ov) (i : Nat) (v : Int) : Rf (w.setCell ⟨g, i, none⟩ (.int .i64 v)) p g (xs.set i v) d un ov := by
  refine ⟨?_, ?_⟩
  · rw [List.length_set]; exact h.st.other h.ne _
  · have := h.row.put i (.int .i64 v)
    rw [i64s_set] at this
    exact this
theorem Rf.deep (h : Rf w p g xs d un ov) (d1 : Nat) : Rf (w.setCell ⟨p, 1, none⟩ (.int .i64 d1)) p g xs d1 un ov := ⟨h.st.put 1 (.int .i64 d1), h.row.other h.ne.symm _⟩
theorem Rf.draws (h : Rf w p g xs d un ov) (n : Nat) : Rf (w.drewN n) p g xs d un ov := ⟨h.st.draws n, h.row.draws n⟩
theorem rat_no (h : Rf w p g xs d un ov) (n : Int) (hn : hasB n d = false) : Calls Try.prog 44 #[.pointer (some ⟨p, 0, none⟩), .int .i64 n] w fun e w' => e = .returned (.int .i64 (-1)) ∧ w' = w := by
  have c1 := h.c1
  clear h
  by_cases h0 : n < 0
  · go_enter Try.func44, Try.ntmps44
    go_wp2_with (fail)
    go_returns
    exact ⟨rfl, rfl⟩
  · have h1 : (d : Int) ≤ n := by simp [hasB] at hn; omega
    go_enter Try.func44, Try.ntmps44
    go_wp2_with (fail)
    go_returns
    exact ⟨rfl, rfl⟩
theorem rat_yes (h : Rf w p g xs d un ov) (n i : Nat) (hn : n < d) (hx : d - 1 - n = i) (hd : d ≤ 17920) : Calls Try.prog 44 #[.pointer (some ⟨p, 0, none⟩), .int .i64 n] w fun e w' => e = .returned (.int .i64 i) ∧ w' = w := by
  have c1 := h.c1
  clear h
  have h0 : ¬ (n : Int) < 0 := by omega
  have h1 : ¬ (d : Int) ≤ (n : Int) := by omega
  have hi : (d : Int) - 1 - n = i := by omega
  clear hn hx
  go_enter Try.func44, Try.ntmps44
  go_wp2_with (fail)
  go_returns
  refine ⟨?_, rfl⟩
  rw [← hi]
  rfl
theorem rpeek_no (h : Rf w p g xs d un ov) (n : Int) (hn : hasB n d = false) : Calls Try.prog 37 #[.pointer (some ⟨p, 0, none⟩), .int .i64 n] w fun e w' => e = .returned (.tuple #[.int .i64 0, .int .i64 un]) ∧ ∃ k, w' = w.drewN k := by
  have c2 := h.c2
  have hh := rat_no h n hn
  clear h hn
  go_enter Try.func37, Try.ntmps37
  go_wp2_with (go_at_call 44; refine hh.mono ?_; rintro e w1 ⟨rfl, hw_⟩; have hw_ := hw_.symm; subst hw_)
  go_quiet (fail)
  go_wp2_with (fail)
  go_returns
  exact ⟨rfl, _, rfl⟩
theorem rpeek_yes (h : Rf w p g xs d un ov) (n i : Nat) (hn : n < d) (hx : d - 1 - n = i) (hd : d ≤ xs.length) (hl : xs.length ≤ 17920) (v : Int) (hv : xs[i]? = some v) : Calls Try.prog 37 #[.pointer (some ⟨p, 0, none⟩), .int .i64 n] w fun e w' => e = .returned (.tuple #[.int .i64 v, .int .i64 0]) ∧ w' = w := by
  have c0 := h.c0
  have ci := h.at i v hv
  have hh := rat_yes h n i hn hx (by omega)
  have b0 : ¬ (i : Int) < 0 := by omega
  have b1 : (0 : Int) ≤ i := by omega
  have b2 : (i : Int) < (xs.length : Int) := by omega
  obtain ⟨m, hm⟩ : ∃ m, xs.length = m := ⟨_, rfl⟩
  rw [hm] at c0 b2
  clear h hn hx hd hl hv hm
  go_enter Try.func37, Try.ntmps37
  go_wp2_with (go_at_call 44; refine hh.mono ?_; rintro e w1 ⟨rfl, hw_⟩; have hw_ := hw_.symm; subst hw_)
  go_returns
  exact ⟨rfl, rfl⟩
theorem rpop_no (h : Rf w p g xs 0 un ov) : Calls Try.prog 36 #[.pointer (some ⟨p, 0, none⟩)] w fun e w' => e = .returned (.tuple #[.int .i64 0, .int .i64 un]) ∧ ∃ k, w' = w.drewN k := by
  have c1 := h.c1
  have c2 := h.c2
  clear h
  simp at c1
  go_enter Try.func36, Try.ntmps36
  go_wp2_with (fail)
  go_quiet (fail)
  go_wp2_with (fail)
  go_returns
  exact ⟨rfl, _, rfl⟩
theorem rpop_yes (h : Rf w p g xs (d + 1) un ov) (hd : d + 1 ≤ xs.length) (hl : xs.length ≤ 17920) (v : Int) (hv : xs[d]? = some v) : Calls Try.prog 36 #[.pointer (some ⟨p, 0, none⟩)] w fun e w' => e = .returned (.tuple #[.int .i64 v, .int .i64 0]) ∧ Rf w' p g xs d un ov ∧ Only p w w' := by
  have c1 := h.c1
  have f1 := h.st.free 1
  have h2 := h.deep d
  have c0 := h2.c0
  have ci := h2.at d v hv
  have q1 : wrap64 (((d + 1 : Nat) : Int) - 1) = (d : Int) := by unfold wrap64; omega
  have b1 : (0 : Int) ≤ d := by omega
  have b2 : (d : Int) < (xs.length : Int) := by omega
  have b3 : (((d + 1 : Nat) : Int) == 0) = false := by simp; omega
  obtain ⟨m, hm⟩ : ∃ m, xs.length = m := ⟨_, rfl⟩
  rw [hm] at c0 b2
  obtain ⟨y, hy⟩ : ∃ y, d + 1 = y := ⟨_, rfl⟩
  rw [hy] at c1 q1 b3
  have hO := (Only.refl p w).put 1 (.int .i64 d)
  have c1' := h2.c1
  obtain ⟨W, hW⟩ : ∃ W, w.setCell ⟨p, 1, none⟩ (.int .i64 d) = W := ⟨_, rfl⟩
  rw [hW] at h2 c0 ci hO c1'
  replace h2 := Lib.hid h2
  replace hO := Lib.hid hO
  clear h hd hl hv hm hy
  go_enter Try.func36, Try.ntmps36
  go_wp2_with (fail)
  go_quiet (fail)
  go_wp2_with (fail)
  go_returns
  exact ⟨rfl, h2.out.draws _, hO.out.draws _⟩
theorem rpoke_no (h : Rf w p g xs d un ov) (n v : Int) (hn : hasB n d = false) : Calls Try.prog 38 #[.pointer (some ⟨p, 0, none⟩), .int .i64 n, .int .i64 v] w fun e w' => e = .returned (.int .i64 un) ∧ w' = w := by
  have c2 := h.c2
  have hh := rat_no h n hn
  clear h hn
  go_enter Try.func38, Try.ntmps38
  go_wp2_with (go_at_call 44; refine hh.mono ?_; rintro e w1 ⟨rfl, hw_⟩; have hw_ := hw_.symm; subst hw_)
  go_returns
  exact ⟨rfl, rfl⟩
theorem rpoke_yes (h : Rf w p g xs d un ov) (n i : Nat) (hn : n < d) (hx : d - 1 - n = i) (hd : d ≤ xs.length) (hl : xs.length ≤ 17920) (v : Int) : Calls Try.prog 38 #[.pointer (some ⟨p, 0, none⟩), .int .i64 n, .int .i64 v] w fun e w' => e = .returned (.int .i64 0) ∧ Rf w' p g (xs.set i v) d un ov ∧ Only g w w' := by
  have c0 := h.c0
  have ci := h.at i xs[i] (List.getElem?_eq_getElem (by omega))
  have fi := h.row.free i
  have h2 := Lib.hid (h.set i v)
  have hh := rat_yes h n i hn hx (by omega)
  have b0 : ¬ (i : Int) < 0 := by omega
  have b1 : (0 : Int) ≤ i := by omega
  have b2 : (i : Int) < (xs.length : Int) := by omega
  obtain ⟨m, hm⟩ : ∃ m, xs.length = m := ⟨_, rfl⟩
  obtain ⟨x, hxi⟩ : ∃ x, xs[i] = x := ⟨_, rfl⟩
  rw [hxi] at ci
  rw [hm] at c0 b2
  clear h hn hx hd hl hm hxi
  go_enter Try.func38, Try.ntmps38
  go_wp2_with (go_at_call 44; refine hh.mono ?_; rintro e w1 ⟨rfl, hw_⟩; have hw_ := hw_.symm; subst hw_)
  go_returns
  exact ⟨rfl, h2.out, (Only.refl g w).put _ _⟩
theorem rroll_no (h : Rf w p g xs d un ov) (n : Int) (hn : hasB n d = false) : Calls Try.prog 39 #[.pointer (some ⟨p, 0, none⟩), .int .i64 n] w fun e w' => e = .returned (.int .i64 un) ∧ w' = w := by
  have c2 := h.c2
  have hh := rat_no h n hn
  clear h hn
  go_enter Try.func39, Try.ntmps39
  go_wp2_with (go_at_call 44; refine hh.mono ?_; rintro e w1 ⟨rfl, hw_⟩; have hw_ := hw_.symm; subst hw_)
  go_returns
  exact ⟨rfl, rfl⟩
set_option maxHeartbeats 2000000 in
theorem rroll_yes (h : Rf w p g xs d un ov) (n i : Nat) (hn : n < d) (hx : d - 1 - n = i) (hd : d ≤ xs.length) (hl : xs.length ≤ 17920) (v : Int) (hv : xs[i]? = some v) :
    Calls Try.prog 39 #[.pointer (some ⟨p, 0, none⟩), .int .i64 n] w fun e w' => e = .returned (.int .i64 0) ∧ Rf w' p g (xs.take i ++ (((xs.drop (i + 1)).take (d - 1 - i) ++ [v]) ++ xs.drop d)) d un ov ∧ Only g w w' := by
  have c0 := h.c0
  have ci := h.at i v hv
  have hh := rat_yes h n i hn hx (by omega)
  have b0 : ¬ (i : Int) < 0 := by omega
  have b1 : (0 : Int) ≤ i := by omega
  have b2 : (i : Int) < (xs.length : Int) := by omega
  have hid' : i < d := by omega
  obtain ⟨m, hm⟩ : ∃ m, xs.length = m := ⟨_, rfl⟩
  rw [hm] at c0 b2
  have hrel0 : Rf w p g (sl xs i i) d un ov ∧ Only g w w := ⟨by rw [sl_start]; exact h, Only.refl g w⟩
  rw [hm] at hd hl
  replace hm := Lib.hid hm
  replace hrel0 := Lib.hid hrel0
  have d1 : (d : Int) ≤ 17920 := by omega
  replace hh := Lib.hid hh
  clear h hn hx hv
  go_enter Try.func39, Try.ntmps39
  go_wp2_with (go_at_call 44; refine hh.out.mono ?_; rintro e w1 ⟨rfl, hw_⟩; have hw_ := hw_.symm; subst hw_)
  go_loopw [5] (fun x wr => ∃ j : Nat, x = .int .i64 j ∧ i ≤ j ∧ j < d ∧ Hid (Rf wr p g (sl xs i j) d un ov ∧ Only g w wr)) (fun x _ => d - (intOf x).toNat)
  case atStart => exact ⟨i, rfl, Nat.le_refl _, hid', hrel0⟩
  case round =>
    obtain ⟨j, rfl, hj0, hj1, hR⟩ := hrel
    have r0 := hR.out.1.c0
    rw [sl_len xs i j hj0 (by rw [hm.out]; omega), hm.out] at r0
    have r1 := hR.out.1.c1
    by_cases hj : j + 1 < d
    · have j0 : (j : Int) < (d : Int) - 1 := by omega
      have k1 : j + 1 < xs.length := by rw [hm.out]; omega
      have e1 := hR.out.1.at (j + 1) xs[j + 1] (by rw [sl_at xs i j hj0 k1, List.getElem?_eq_getElem k1])
      obtain ⟨old, hold⟩ : ∃ old, (sl xs i j)[j]? = some old := ⟨_, List.getElem?_eq_getElem (by rw [sl_len xs i j hj0 (by omega)]; omega)⟩
      have e0 := hR.out.1.at j old hold
      have f0 := hR.out.1.row.free j
      obtain ⟨x, hxx⟩ : ∃ x, xs[j + 1] = x := ⟨_, rfl⟩
      rw [hxx] at e1
      have hS : Rf ((wr.drew).setCell ⟨g, j, none⟩ (.int .i64 x)) p g (sl xs i (j + 1)) d un ov ∧ Only g w ((wr.drew).setCell ⟨g, j, none⟩ (.int .i64 x)) := by
        refine ⟨?_, (hR.out.2.draws 1).put j _⟩
        have := (hR.out.1.draws 1).set j x
        rw [← hxx, sl_step xs i j hj0 k1, hxx] at this
        exact this
      replace hS := Lib.hid hS
      have b3 : (0 : Int) ≤ j := by omega
      have b4 : (j : Int) < (m : Int) := by omega
      obtain ⟨y1, hy1⟩ : ∃ y1, j + 1 = y1 := ⟨_, rfl⟩
      have q1 : IntKind.i64.wrap ((j : Int) + 1) = (y1 : Int) := by rw [IntKind.wrap_i64]; omega
      have b5 : (y1 : Int) < (m : Int) := by clear q1; omega
      have b6 : (0 : Int) ≤ (y1 : Int) := by clear q1; omega
      rw [hy1] at e1
      have hjm : i ≤ j + 1 ∧ j + 1 < d ∧ d - (j + 1) < d - j := by clear q1; omega
      replace hjm := Lib.hid hjm
      have hyy := Lib.hid hy1
      clear hxx hold hrel0 hh hy1
      go_wp2_with (fail)
      go_still_tail 14, (by kernel_rfl)
      change wpList _ _ _ _ _ wr.drew
      go_wp2_with (fail)
      refine ⟨⟨j + 1, by rw [hyy.out], hjm.out.1, hjm.out.2.1, hS⟩, ?_⟩
      rw [← hyy.out]
      exact hjm.out.2.2
    · have ej : j = d - 1 := by omega
      have j0 : ¬ (j : Int) < (d : Int) - 1 := by omega
      have k1 : j < xs.length := by rw [hm.out]; omega
      obtain ⟨old, hold⟩ : ∃ old, (sl xs i j)[j]? = some old := ⟨_, List.getElem?_eq_getElem (by rw [sl_len xs i j hj0 (by omega)]; omega)⟩
      have e0 := hR.out.1.at j old hold
      have f0 := hR.out.1.row.free j
      have hS : Rf (wr.setCell ⟨g, j, none⟩ (.int .i64 v)) p g (xs.take i ++ (((xs.drop (i + 1)).take (d - 1 - i) ++ [v]) ++ xs.drop d)) d un ov ∧ Only g w (wr.setCell ⟨g, j, none⟩ (.int .i64 v)) := by
        refine ⟨?_, hR.out.2.put j _⟩
        have := hR.out.1.set j v
        rw [sl_put xs i j v hj0 k1, ej, show d - 1 + 1 = d from by omega] at this
        rw [ej]
        exact this
      replace hS := Lib.hid hS
      have b3 : (0 : Int) ≤ j := by omega
      have b4 : (j : Int) < (m : Int) := by omega
      clear hold hrel0 hh ej
      go_wp2_with (fail)
      go_returns
      exact ⟨rfl, by simpa using hS.out.1, hS.out.2⟩
theorem rcut_no (h : Rf w p g xs d un ov) (n : Int) (hn : n < 0 ∨ (xs.length : Int) < n) : Calls Try.prog 41 #[.pointer (some ⟨p, 0, none⟩), .int .i64 n] w fun e w' => e = .returned (.bool false) ∧ w' = w := by
  have c0 := h.c0
  clear h
  by_cases h0 : n < 0
  · go_enter Try.func41, Try.ntmps41
    go_wp2_with (fail)
    go_returns
    exact ⟨rfl, rfl⟩
  · have h1 : (xs.length : Int) < n := by omega
    clear hn
    go_enter Try.func41, Try.ntmps41
    go_wp2_with (fail)
    go_returns
    exact ⟨rfl, rfl⟩
set_option maxHeartbeats 2000000 in
theorem rcut_yes (h : Rf w p g xs d un ov) (n : Nat) (hn : n ≤ xs.length) (hd : d ≤ xs.length) (hl : xs.length ≤ 17920) :
    Calls Try.prog 41 #[.pointer (some ⟨p, 0, none⟩), .int .i64 n] w fun e w' => e = .returned (.bool true) ∧ Rf w' p g (over xs d (List.replicate (n - d) 0)) n un ov ∧ Duo p g w w' := by
  have c0 := h.c0
  have b0 : ¬ (n : Int) < 0 := by omega
  have b1 : ¬ (xs.length : Int) < (n : Int) := by omega
  obtain ⟨m, hm⟩ : ∃ m, xs.length = m := ⟨_, rfl⟩
  rw [hm] at c0 b1
  have hrel0 : Rf w p g (over xs d (List.replicate 0 0)) (d + 0) un ov ∧ Duo p g w w := ⟨by rw [List.replicate_zero, over_nil]; exact h, Duo.refl p g w⟩
  rw [hm] at hd hl hn
  replace hm := Lib.hid hm
  replace hrel0 := Lib.hid hrel0
  clear h
  go_enter Try.func41, Try.ntmps41
  go_wp2_with (fail)
  go_loopw [19] (fun _ wr => ∃ j : Nat, (d + j ≤ n ∨ j = 0) ∧ Hid (Rf wr p g (over xs d (List.replicate j 0)) (d + j) un ov ∧ Duo p g w wr)) (fun _ wr => n - (intOf ((wr.cell? ⟨p, 1, none⟩).getD (.int .i64 0))).toNat)
  case atStart => exact ⟨0, .inr rfl, hrel0⟩
  case round =>
    obtain ⟨j, hj0, hR⟩ := hrel
    have r1 := hR.out.1.c1
    by_cases hj : d + j < n
    · have j0 : ((d + j : Nat) : Int) < (n : Int) := by omega
      have hol : (over xs d (List.replicate j 0)).length = m := by rw [over_len _ _ _ (by rw [List.length_replicate, hm.out]; omega), hm.out]
      have r0 := hR.out.1.c0
      rw [hol] at r0
      obtain ⟨old, hold⟩ : ∃ old, (over xs d (List.replicate j 0))[d + j]? = some old := ⟨_, List.getElem?_eq_getElem (by rw [hol]; omega)⟩
      have e0 := hR.out.1.at (d + j) old hold
      have f0 := hR.out.1.row.free (d + j)
      have hS1 : Rf ((wr.drew).setCell ⟨g, d + j, none⟩ (.int .i64 0)) p g (over xs d (List.replicate (j + 1) 0)) (d + j) un ov := by
        have := (hR.out.1.draws 1).set (d + j) 0
        have hs := over_step xs d (List.replicate j 0) 0 (by rw [List.length_replicate, hm.out]; omega)
        rw [List.length_replicate] at hs
        rw [hs, ← List.replicate_succ'] at this
        exact this
      have hS2 : Duo p g w ((wr.drew).setCell ⟨g, d + j, none⟩ (.int .i64 0)) := hR.out.2.trans (Duo.two (((Only.refl g wr).draws 1).put _ _))
      have hS3 : Rf (((wr.drew).setCell ⟨g, d + j, none⟩ (.int .i64 0)).setCell ⟨p, 1, none⟩ (.int .i64 ((d + (j + 1) : Nat) : Int))) p g (over xs d (List.replicate (j + 1) 0)) (d + (j + 1)) un ov := hS1.deep _
      have hS4 : Duo p g w (((wr.drew).setCell ⟨g, d + j, none⟩ (.int .i64 0)).setCell ⟨p, 1, none⟩ (.int .i64 ((d + (j + 1) : Nat) : Int))) := hS2.trans (Duo.one ((Only.refl p _).put _ _))
      have t1 := hS1.c1
      have t2 := hS1.st.free 1
      have u1 := hS3.c1
      obtain ⟨y, hy⟩ : ∃ y, d + j = y := ⟨_, rfl⟩
      obtain ⟨Y, hY⟩ : ∃ Y, (wr.drew).setCell ⟨g, d + j, none⟩ (.int .i64 0) = Y := ⟨_, rfl⟩
      rw [hY] at t1 t2 hS3 hS4 u1
      rw [show d + (j + 1) = y + 1 from by omega] at hS3 hS4 u1
      rw [hy] at j0 r1 e0 f0 hY t1
      have b5 : (0 : Int) ≤ (y : Int) := by omega
      have b6 : (y : Int) < (m : Int) := by omega
      have q1 : (y : Int) + 1 = ((y + 1 : Nat) : Int) := by omega
      have q2 : (y : Int) ≤ 17920 := by omega
      have hfin : (d + (j + 1) ≤ n ∨ j + 1 = 0) ∧ n - (y + 1) < n - y := by omega
      replace hfin := Lib.hid hfin
      replace hS3 := Lib.hid hS3
      replace hS4 := Lib.hid hS4
      replace q1 := Lib.hid q1
      have hyy := Lib.hid hy
      clear hold hrel0 hS1 hS2 hy
      go_wp2_with (fail)
      go_still_tail 9, (by kernel_rfl)
      change wpList _ _ _ _ _ wr.drew
      go_wp2_with (fail)
      refine ⟨⟨j + 1, hfin.out.1, Lib.hid ?_⟩, ?_⟩
      · rw [q1.out, show d + (j + 1) = y + 1 from by rw [← hyy.out]; rfl]
        exact ⟨hS3.out, hS4.out⟩
      · rw [q1.out, u1, r1]
        exact hfin.out.2
    · have j0 : ¬ ((d + j : Nat) : Int) < (n : Int) := by omega
      have hO : Rf (wr.setCell ⟨p, 1, none⟩ (.int .i64 n)) p g (over xs d (List.replicate (n - d) 0)) n un ov ∧ Duo p g w (wr.setCell ⟨p, 1, none⟩ (.int .i64 n)) := by
        refine ⟨?_, hR.out.2.trans (Duo.one ((Only.refl p _).put _ _))⟩
        rw [show n - d = j from by omega]
        exact hR.out.1.deep n
      have f1 := hR.out.1.st.free 1
      replace hO := Lib.hid hO
      obtain ⟨y, hy⟩ : ∃ y, d + j = y := ⟨_, rfl⟩
      rw [hy] at j0 r1
      clear hrel0
      go_wp2_with (fail)
      go_returns
      exact ⟨rfl, hO.out.1, hO.out.2⟩
theorem rpush_no (h : Rf w p g xs d un ov) (hl : xs.length ≤ 17920) (hd : d ≤ xs.length) (A : Option Addr) (n c : Nat) (hn : xs.length - d < n) (hm : (n : Int) ≤ 140737488355328) :
    Calls Try.prog 24 #[.pointer (some ⟨p, 0, none⟩), .slice A n c] w fun e w' => e = .returned (.int .i64 ov) ∧ ∃ k, w' = w.drewN k := by
  have c0 := h.c0
  have c1 := h.c1
  have c3 := h.c3
  have i1 : (xs.length : Int) - (d : Int) < (n : Int) := by omega
  have i2 : (d : Int) ≤ 17920 ∧ (xs.length : Int) ≤ 17920 := by omega
  obtain ⟨m, hm'⟩ : ∃ m, xs.length = m := ⟨_, rfl⟩
  rw [hm'] at c0 i1 i2
  clear h hn hl hd hm'
  go_enter Try.func24, Try.ntmps24
  go_wp2_with (fail)
  go_quiet (fail)
  go_wp2_with (fail)
  go_returns
  exact ⟨rfl, _, rfl⟩
set_option maxHeartbeats 2000000 in
theorem rpush_yes (h : Rf w p g xs d un ov) (hl : xs.length ≤ 17920) (hd : d ≤ xs.length) (A : Option Addr) (c sb so : Nat) (vs : List Int) (n : Nat) (hvn : vs.length = n) (hn : d + n ≤ xs.length) (hv : Rowd w A sb so vs) (hne : 0 < n → sb ≠ p ∧ sb ≠ g) :
    Calls Try.prog 24 #[.pointer (some ⟨p, 0, none⟩), .slice A n c] w fun e w' => e = .returned (.int .i64 0) ∧ Rf w' p g (over xs d vs) (d + n) un ov ∧ Duo p g w w' := by
  have c0 := h.c0
  have c1 := h.c1
  have i1 : ¬ (xs.length : Int) - (d : Int) < (n : Int) := by omega
  have i2 : (d : Int) ≤ 17920 ∧ (xs.length : Int) ≤ 17920 ∧ (n : Int) ≤ 17920 := by omega
  obtain ⟨m, hm'⟩ : ∃ m, xs.length = m := ⟨_, rfl⟩
  rw [hm'] at c0 i1 i2
  have hrel0 : ∀ k, Rf (w.drewN k) p g (over xs d (vs.take 0)) (d + 0) un ov ∧ Duo p g w (w.drewN k) := fun k => ⟨by rw [List.take_zero, over_nil]; exact h.draws k, Duo.bel ⟨rfl, rfl, rfl, Nat.le_refl _, fun _ _ => rfl⟩⟩
  rw [hm'] at hd hl hn
  replace hrel0 := Lib.hid hrel0
  replace hm' := Lib.hid hm'
  replace hvn := Lib.hid hvn
  have hv := Lib.hid hv
  replace hne := Lib.hid hne
  clear h
  go_enter Try.func24, Try.ntmps24
  go_wp2_with (fail)
  go_quiet (fail)
  go_wp2_with (fail)
  have hr1 := Lib.hid (hrel0.out nq)
  obtain ⟨w1, hw1⟩ : ∃ w1, w.drewN nq = w1 := ⟨_, rfl⟩
  rw [hw1] at hr1 ⊢
  clear hw1 hrel0 c0 c1
  go_loopw [5] (fun x wr => ∃ j : Nat, x = .int .i64 j ∧ j ≤ n ∧ Hid (Rf wr p g (over xs d (vs.take j)) (d + j) un ov ∧ Duo p g w wr)) (fun x _ => n - (intOf x).toNat)
  case atStart => exact ⟨0, rfl, Nat.zero_le _, hr1⟩
  case round =>
    obtain ⟨j, rfl, hj0, hR⟩ := hrel
    by_cases hj : j < n
    · have j0 : (j : Int) < (n : Int) := by omega
      have hj' : j < vs.length := by rw [hvn.out]; exact hj
      have htl : (vs.take j).length = j := by simp; omega
      have hol : (over xs d (vs.take j)).length = m := by rw [over_len _ _ _ (by rw [htl, hm'.out]; omega), hm'.out]
      have r0 := hR.out.1.c0
      rw [hol] at r0
      have r1 := hR.out.1.c1
      obtain ⟨old, hold⟩ : ∃ old, (over xs d (vs.take j))[d + j]? = some old := ⟨_, List.getElem?_eq_getElem (by rw [hol]; omega)⟩
      have e0 := hR.out.1.at (d + j) old hold
      have f0 := hR.out.1.row.free (d + j)
      obtain ⟨rA, rv⟩ := hv.out j hj'
      obtain ⟨x, hx⟩ : ∃ x, vs[j] = x := ⟨_, rfl⟩
      rw [hx] at rv
      have hsb : sb < w.heap.size := World.block_lt_of_cell? w _ rv
      have rv : wr.cell? ⟨sb, so + j, none⟩ = some (.int .i64 x) := (World.cell?_of_block (w := w) (a := ⟨sb, so + j, none⟩) (hR.out.2.block sb hsb (hne.out (by omega)).1 (hne.out (by omega)).2)).trans rv
      subst rA
      have hS1 : Rf ((wr.drew).setCell ⟨g, d + j, none⟩ (.int .i64 x)) p g (over xs d (vs.take (j + 1))) (d + j) un ov := by
        have := (hR.out.1.draws 1).set (d + j) x
        have hs := over_step xs d (vs.take j) x (by rw [htl, hm'.out]; omega)
        rw [htl] at hs
        have e : vs.take (j + 1) = vs.take j ++ [x] := by rw [← hx, List.take_append_getElem hj']
        rw [e, ← hs]
        exact this
      have hS2 : Duo p g w ((wr.drew).setCell ⟨g, d + j, none⟩ (.int .i64 x)) := hR.out.2.trans (Duo.two (((Only.refl g wr).draws 1).put _ _))
      have hS3 := hS1.deep (d + (j + 1))
      have hS4 : Duo p g w (((wr.drew).setCell ⟨g, d + j, none⟩ (.int .i64 x)).setCell ⟨p, 1, none⟩ (.int .i64 ((d + (j + 1) : Nat) : Int))) := hS2.trans (Duo.one ((Only.refl p _).put _ _))
      have t1 := hS1.c1
      have t2 := hS1.st.free 1
      obtain ⟨y, hy⟩ : ∃ y, d + j = y := ⟨_, rfl⟩
      obtain ⟨Y, hY⟩ : ∃ Y, (wr.drew).setCell ⟨g, d + j, none⟩ (.int .i64 x) = Y := ⟨_, rfl⟩
      rw [hY] at t1 t2 hS3 hS4
      rw [show d + (j + 1) = y + 1 from by omega] at hS3 hS4
      rw [hy] at r1 e0 f0 hY t1
      have b3 : (0 : Int) ≤ (j : Int) := by omega
      have b5 : (0 : Int) ≤ (y : Int) := by omega
      have b6 : (y : Int) < (m : Int) := by omega
      have q1 : (y : Int) + 1 = ((y + 1 : Nat) : Int) := by omega
      have q2 : (y : Int) ≤ 17920 := by omega
      replace hS3 := Lib.hid hS3
      replace hS4 := Lib.hid hS4
      replace q1 := Lib.hid q1
      have hyy := Lib.hid hy
      clear hold hS1 hS2 hy hx
      go_wp2_with (fail)
      go_still_tail 13, (by kernel_rfl)
      change wpList _ _ _ _ _ wr.drew
      go_wp2_with (fail)
      refine ⟨⟨j + 1, rfl, by omega, Lib.hid ?_⟩, ?_⟩
      · rw [q1.out, show d + (j + 1) = y + 1 from by rw [← hyy.out]; rfl]
        exact ⟨hS3.out, hS4.out⟩
      · simp [intOf]; omega
    · have e : j = n := by omega
      subst e
      go_wp2_with (fail)
      go_returns
      have h1 := hR.out.1
      rw [List.take_of_length_le (by rw [hvn.out]; exact Nat.le_refl _)] at h1
      exact ⟨rfl, h1, hR.out.2⟩
end
end Go.Proofs.Ytkopgjdnfjgbjaa
