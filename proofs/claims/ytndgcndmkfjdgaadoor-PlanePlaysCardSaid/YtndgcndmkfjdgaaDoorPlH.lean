import Derived.Test.YtndgcndmkfjdgaaDoorPlG
import Derived.ArgAppend
import Derived.Laws.OwnMore
import Derived.StillTailTactics
import Derived.Deep.RegionLaw
import Derived.OrdersHeld
namespace Go.Proofs.YtndgcndmkfjdgaaDoor
open Go.RowKit Go.Extern.Stop Go.Stop Go.Extern
set_option linter.unusedVariables false
set_option linter.unusedSimpArgs false
/-! the turtle: Forward -/
theorem own_ge {W : World} {base n size : Nat} {e : TypeId} {v : Value} {xs : List Value} (h : W.ownsRow base e size v n xs) : ∀ k, v.ownBlock = some k → base ≤ k := by
  intro k hk
  rcases h.2 with ⟨rfl, _⟩ | ⟨g, cap, cur, rfl, hb, _⟩
  · simp [Value.ownBlock] at hk
  · simp [Value.ownBlock] at hk; omega
theorem addr_add0 (g j : Nat) : ((⟨g, 0, none⟩ : Addr).add j) = ⟨g, j, none⟩ := by unfold Addr.add; split <;> simp_all
theorem grown_trans {a b c : World} {row : Option Nat} (h : a.grownBy b row) (k : b.grownBy c row) : a.grownBy c row :=
  ⟨k.os.trans h.os, k.tape.trans h.tape, k.output.trans h.output, Nat.le_trans h.size k.size, fun i hi hn => (k.block i (Nat.lt_of_lt_of_le hi h.size) hn).trans (h.block i hi hn)⟩
/-- one element more behind a slice that lies whole: where it lies then -/
theorem app_one {P : Program} {w : World} {t e : TypeId} {i : TypeInfo} {z : Value} {size bytes : Nat} (ht : P.underlying t = some (.slice e)) (hi : P.info? e = some i) (hz : i.zero = some z)
    (hsize : i.size = size) (hby : i.bytes = bytes) (hzs : z.cells.size = size) (hsz : 0 < size) (hbs : bytes ≤ 64) {v : Value} {n : Nat} {xs : List Value} (h : w.ownsRow 0 e size v n xs) (news : List Value) (hl : news.length = size) (h1 : ∀ u ∈ news, u.oneCell' = true) (hn : n ≤ 1000000) :
    ∃ A' c' w2, (Builtin.append_ #[t, t] t #[v, .slice (some ⟨w.heap.size, 0, none⟩) 1 1]).run P (w.alloc (.cells news.toArray e)) = .ok (.slice A' (n + 1) c') w2 ∧ w2.ownsRow 0 e size (.slice A' (n + 1) c') (n + 1) (xs ++ news) ∧ w.grownBy w2 v.ownBlock ∧
      ((Value.slice A' (n + 1) c').ownBlock = v.ownBlock ∨ ∀ k, (Value.slice A' (n + 1) c').ownBlock = some k → w.heap.size ≤ k) := by
  have hnews : ∀ j u, news[j]? = some u → (w.alloc (.cells news.toArray e)).cell? ((⟨w.heap.size, 0, none⟩ : Addr).add j) = some u := fun j u hu => by
    rw [addr_add0, (Bk.fresh w e news.toArray).cell j]
    simpa using hu
  have hg0 := World.grownBy_alloc w (.cells news.toArray e) v.ownBlock
  have hb : (n + 1) * bytes ≤ 140737488355328 := Nat.le_trans (Nat.mul_le_mul (by omega : n + 1 ≤ 1000001) hbs) (by decide)
  have hm : n + 1 ≤ maxLen := by unfold maxLen; omega
  have hr := h.alloc (.cells news.toArray e)
  rcases h.2 with ⟨rfl, rfl⟩ | ⟨g, cap, cur, rfl, hb0, hg, hnc, hcm, hcs, htk⟩
  · have hr0 : (w.alloc (.cells news.toArray e)).ownsRow w.heap.size e size (.slice none 0 0) 0 xs := ⟨h.1, .inl ⟨rfl, rfl⟩⟩
    obtain ⟨v', w2, hrun, hown, hgr, _⟩ := run_append_own (P := P) (w.alloc (.cells news.toArray e)) w.heap.size t t e i z size bytes ht hi hz hsize hby hzs hsz _ 0 xs hr0 ⟨w.heap.size, 0, none⟩ 1 1 news (by omega) hnews h1 hm hb (by simp)
    obtain ⟨A', c', rfl⟩ := own_form hown
    exact ⟨A', c', w2, hrun, own_base hown (Nat.zero_le _), grown_trans hg0 hgr, .inr (own_ge hown)⟩
  · by_cases hroom : n + 1 ≤ cap
    · obtain ⟨w2, hrun, hown, hgr⟩ := run_append_fits (P := P) (w.alloc (.cells news.toArray e)) 0 t t e i size ht hi hsize g n cap xs hr ⟨w.heap.size, 0, none⟩ 1 1 news (by omega) hnews h1 hroom
      exact ⟨_, _, w2, hrun, hown, grown_trans hg0 hgr, .inl rfl⟩
    · obtain ⟨v', w2, hrun, hown, hgr⟩ := run_append_arg_grows (P := P) (w.alloc (.cells news.toArray e)) t t e i z size bytes ht hi hz hsize hby hzs hsz ⟨g, 0, none⟩ n cap xs h.1 (fun j u hu => by
        rw [addr_add0]
        have hj : j < n * size := by
          have := (List.getElem?_eq_some_iff.1 hu).1
          rw [h.1] at this; exact this
        rw [hr.cellAt j hj]; exact hu) ⟨w.heap.size, 0, none⟩ 1 1 news (by omega) hnews (by omega) hm hb
      obtain ⟨A', c', rfl⟩ := own_form hown
      refine ⟨A', c', w2, hrun, own_base hown (Nat.zero_le _), grown_trans hg0 ⟨hgr.os, hgr.tape, hgr.output, hgr.size, fun k hk _ => hgr.block k hk (by simp)⟩, .inr (fun k hk => ?_)⟩
      have := own_ge hown k hk
      simp at this; omega
theorem wpList_append_run {P : Program} {w w2 : World} {ops : Array Oper} {rest : List Oper} {o : Oper} {a : Act} {Q : Exit → Act → World → Prop} (hgd : o.guard = none) (s x : Operand) (t : TypeId)
    (ho : o.op = .call { callee := .builtin .append, args := #[s, x], argTypes := #[t, t] }) (v0 v1 V : Value) (hs : a.eval s = v0) (hx : a.eval x = V)
    (hrun : (Builtin.append_ #[t, t] o.type #[v0, V]).run P w = .ok v1 w2) (h : wpList P ops Q rest (a.put o.dst v1) w2) : wpList P ops Q (o :: rest) a w := by
  refine wpList_plain hgd fun K hK => ?_
  unfold Oper.wp execOp
  simp only [ho, resolve, invoke, builtin, Sem.run_bind, Sem.run_pure, Result.andThen_ok, List.map_toArray, List.map_cons, List.map_nil, hs, hx, hrun]
  exact hK _ _ h
theorem step_append_run {P : Program} {w w2 : World} {ops : Array Oper} {o : Oper} {a : Act} {K : Act → World → Prop} {Q : Exit → Act → World → Prop} {E : Prop} (hgd : o.guard = none) (s x : Operand) (t : TypeId)
    (ho : o.op = .call { callee := .builtin .append, args := #[s, x], argTypes := #[t, t] }) (v0 v1 V : Value) (hs : a.eval s = v0) (hx : a.eval x = V)
    (hrun : (Builtin.append_ #[t, t] o.type #[v0, V]).run P w = .ok v1 w2) (h : K (a.put o.dst v1) w2) :
    if Region.wanted o (yielded ops a.tmps) = true then Oper.wp P o a w K Q else E := by
  have hw : Region.wanted o (yielded ops a.tmps) = true := by simp [Region.wanted, hgd]
  rw [if_pos hw]
  unfold Oper.wp execOp
  simp only [ho, resolve, invoke, builtin, Sem.run_bind, Sem.run_pure, Result.andThen_ok, List.map_toArray, List.map_cons, List.map_nil, hs, hx, hrun]
  exact h
theorem mk_append {w : World} {base : Nat} {V : Value} {ms : List Mk} (m : Mk) (h : w.ownsRow base 65 2 V ms.length (mwsC (ms.map mkW))) (hb : base ≤ w.heap.size) (hl : ms.length ≤ 100000) :
    ∃ A' c' w2, (Builtin.append_ #[24, 24] 24 #[V, .slice (some ⟨w.heap.size, 0, none⟩) 1 1]).run Tryd.prog (w.alloc (.cells #[cw m.1, cw m.2] 65)) = .ok (.slice A' (ms.length + 1) c') w2 ∧
      w2.ownsRow base 65 2 (.slice A' (ms.length + 1) c') (ms ++ [m]).length (mwsC ((ms ++ [m]).map mkW)) ∧ w.grownBy w2 V.ownBlock ∧
      ((Value.slice A' (ms.length + 1) c').ownBlock = V.ownBlock ∨ ∀ k, (Value.slice A' (ms.length + 1) c').ownBlock = some k → w.heap.size ≤ k) := by
  obtain ⟨i9, hi, hz0, hz1, hz2⟩ := info_parts info_mark
  obtain ⟨A', c', w2, hrun, hown, hgr, hnew⟩ := app_one (P := Tryd.prog) (w := w) Tryd.underlying24 hi hz0 hz1 hz2 rfl (by decide) (by decide) (own_base h (Nat.zero_le _)) (mwC (mkW m)) rfl (mwC_one _) (by omega)
  refine ⟨A', c', w2, hrun, ?_, hgr, hnew⟩
  have e : mwsC (ms.map mkW) ++ mwC (mkW m) = mwsC ((ms ++ [m]).map mkW) := by rw [mwsC_push, List.map_append]; rfl
  rw [e] at hown
  have e2 : (ms ++ [m]).length = ms.length + 1 := by simp
  rw [e2]
  rcases hown.2 with ⟨e3, h0⟩ | ⟨g, cap, cur, e3, hb0, rest⟩
  · omega
  · refine ⟨hown.1, .inr ⟨g, cap, cur, e3, ?_, rest⟩⟩
    rcases hnew with h1 | h1
    · rw [e3] at h1
      exact own_ge h g h1.symm
    · have := h1 g (by rw [e3]; rfl)
      omega
def toZ (a v : Pt) (n : Int) : Pt := (a.1 + n * v.1, a.2 + n * v.2)
theorem to_far {a v : Pt} {n : Int} (ha : Sm a 16777216) (hv : Unit4 v) (hn : 33554432 < n ∨ n < -33554432) : ¬ Sm (toZ a v n) 16777216 := by
  unfold Sm toZ at *
  rcases hv with rfl | rfl | rfl | rfl <;> simp only <;> omega
theorem mul_unit {v : Pt} (hv : Unit4 v) (n : Int) : (n * v.1 = 0 ∨ n * v.1 = n ∨ n * v.1 = -n) ∧ (n * v.2 = 0 ∨ n * v.2 = n ∨ n * v.2 = -n) := by
  rcases hv with rfl | rfl | rfl | rfl <;> simp
section
variable {w : World} {base t : Nat} {V : Value} {a v : Pt} {dn : Bool} {ms : List Mk}
theorem tfwd_huge (T : Tt w base t V a v dn ms) (n : Int) (hn : 33554432 < n ∨ n < -33554432) : Calls Tryd.prog 21 #[.pointer (some ⟨t, 0, none⟩), .int .i64 n] w fun e w' => e = .returned (.int .i64 8) ∧ Below w.heap.size w w' := by
  clear T
  by_cases h1 : 33554432 < n
  · clear hn
    go_enter Tryd.func21, Tryd.ntmps21
    go_wp2_with (fail)
    go_returns
    exact ⟨rfl, Below.refl _ _⟩
  · have h2 : n < -33554432 := by omega
    clear hn
    go_enter Tryd.func21, Tryd.ntmps21
    go_wp2_with (fail)
    go_returns
    exact ⟨rfl, Below.refl _ _⟩
set_option maxRecDepth 100000 in
set_option maxHeartbeats 1000000 in
theorem tfwd_far (T : Tt w base t V a v dn ms) (n : Int) (hn : ¬ Sm (toZ a v n) 16777216) : Calls Tryd.prog 21 #[.pointer (some ⟨t, 0, none⟩), .int .i64 n] w fun e w' => e = .returned (.int .i64 8) ∧ Below w.heap.size w w' := by
  by_cases hbig : 33554432 < n ∨ n < -33554432
  · exact tfwd_huge T n hbig
  · skip
    have hs := T.un.sm
    have hsa := T.sa
    have hmu := mul_unit T.un n
    have h1 : ¬ (33554432 : Int) < n := by omega
    have h2 : ¬ n < (-33554432 : Int) := by omega
    have tf := fun w => toFloat_run n (by omega) w
    have hwn : Wd (fi n false) n := wd_fi n false (by omega)
    obtain ⟨r1, hr1, hw1⟩ := wd_mul hwn (wz_nm (sm_mono hs (by decide))).1 (by omega)
    obtain ⟨r2, hr2, hw2⟩ := wd_mul hwn (wz_nm (sm_mono hs (by decide))).2 (by omega)
    unfold wz at hr1 hr2
    simp only at hr1 hr2
    have run1 := fun t w => run_float_arith (P := Tryd.prog) w .mul t .f64 _ _ r1 hr1
    have run2 := fun t w => run_float_arith (P := Tryd.prog) w .mul t .f64 _ _ r2 hr2
    obtain ⟨⟨s1, s2⟩, hsN, hrun⟩ := nm_sum (x := wz a) (y := (r1, r2)) (wz_nm hsa) ⟨hw1, hw2⟩ (sm_mono hsa (by decide)) (b := (n * v.1, n * v.2)) (by unfold Sm; omega) 43
    unfold wz at hrun
    simp only at hrun hsN
    have c0 := T.bk.cell 0
    have c1 := T.bk.cell 1
    simp [cw] at c0 c1
    have htl := T.bk.lt
    have hb := add_bad (0, 0) (s1, s2) (nm_lt (z := (0, 0)) ⟨wd_zero, wd_zero⟩) (nm_lt hsN) (fun h => hn ((nm_rt hsN).1 h.2))
    replace hb := Lib.hid hb
    clear T hs hsa hmu hwn hw1 hw2 hr1 hr2 hsN hn hbig
    unfold bad at hb
    go_enter Tryd.func21, Tryd.ntmps21
    go_wp2_with (fail)
    go_region_held3 (fun w' => w'.cell? ⟨t, 0, none⟩ = some (.complex .f64 (fi a.1 false) (fi a.2 false)) ∧ w'.cell? ⟨t, 1, none⟩ = some (.complex .f64 (fi v.1 false) (fi v.2 false))) (go_keep)
      ((go_at_call 50; (with_reducible refine Calls.mono (hb.out _) ?_); rintro e w1_ ⟨rfl, hb1⟩; have kS : w1_.cell? ⟨t, 0, none⟩ = some (.complex .f64 (fi a.1 false) (fi a.2 false)) ∧ w1_.cell? ⟨t, 1, none⟩ = some (.complex .f64 (fi v.1 false) (fi v.2 false)) := ⟨(hb1.cell (p := ⟨t, 0, none⟩) htl).trans c0, (hb1.cell (p := ⟨t, 1, none⟩) htl).trans c1⟩; replace hb1 := Lib.hid hb1))
    all_goals go_wp2_with (fail)
    all_goals go_returns
    all_goals exact ⟨rfl, ((Below.refl w.heap.size w).drew).trans hb1.out⟩
set_option maxRecDepth 100000 in
set_option maxHeartbeats 2000000 in
theorem tfwd_many (T : Tt w base t V a v true ms) (n : Int) (hn : Sm (toZ a v n) 16777216) (h0 : n ≠ 0) (h4 : ms.length = 4096) : Calls Tryd.prog 21 #[.pointer (some ⟨t, 0, none⟩), .int .i64 n] w fun e w' => e = .returned (.int .i64 3) ∧ Below w.heap.size w w' := by
  have hbig : ¬ (33554432 < n ∨ n < -33554432) := fun g => to_far T.sa T.un g hn
  have hs := T.un.sm
  have hsa := T.sa
  have hmu := mul_unit T.un n
  have h1 : ¬ (33554432 : Int) < n := by omega
  have h2 : ¬ n < (-33554432 : Int) := by omega
  have tf := fun w => toFloat_run n (by omega) w
  have hwn : Wd (fi n false) n := wd_fi n false (by omega)
  obtain ⟨r1, hr1, hw1⟩ := wd_mul hwn (wz_nm (sm_mono hs (by decide))).1 (by omega)
  obtain ⟨r2, hr2, hw2⟩ := wd_mul hwn (wz_nm (sm_mono hs (by decide))).2 (by omega)
  unfold wz at hr1 hr2
  simp only at hr1 hr2
  have run1 := fun t w => run_float_arith (P := Tryd.prog) w .mul t .f64 _ _ r1 hr1
  have run2 := fun t w => run_float_arith (P := Tryd.prog) w .mul t .f64 _ _ r2 hr2
  obtain ⟨⟨s1, s2⟩, hsN, hrun⟩ := nm_sum (x := wz a) (y := (r1, r2)) (wz_nm hsa) ⟨hw1, hw2⟩ (sm_mono hsa (by decide)) (b := (n * v.1, n * v.2)) (by unfold Sm; omega) 43
  unfold wz at hrun
  simp only at hrun hsN
  have c0 := T.bk.cell 0
  have c1 := T.bk.cell 1
  simp [cw] at c0 c1
  have htl := T.bk.lt
  have hb := add_ok (0, 0) (s1, s2) (0, 0) (toZ a v n) ⟨wd_zero, wd_zero⟩ hsN (by unfold Sm; decide) hn
  have hz : res (0 + (toZ a v n).1, 0 + (toZ a v n).2) = .tuple #[cw (toZ a v n), .int .i64 0] := by
    rw [Int.zero_add, Int.zero_add]; exact res_small _ hn
  simp only at hb
  rw [hz] at hb
  obtain ⟨z, hzz⟩ : ∃ z, toZ a v n = z := ⟨_, rfl⟩
  rw [hzz] at hb hn
  try rw [hzz]
  try rw [hzz] at hax
  obtain ⟨m, hm⟩ : ∃ m, ms.length = m := ⟨_, rfl⟩
  have hm4 : (m : Int) ≤ 4096 := by have := T.le; omega
  obtain ⟨A, c, hV⟩ := own_form T.row
  rw [hm] at hV
  subst hV
  replace hb := Lib.hid hb
  replace T := Lib.hid T
  replace hn := Lib.hid hn
  replace hm := Lib.hid hm
  clear hs hsa hmu hwn hw1 hw2 hr1 hr2 hsN hbig hz hzz
  unfold cw at hb
  go_enter Tryd.func21, Tryd.ntmps21
  go_wp2_with (fail)
  go_region_held3 (fun w' => w'.cell? ⟨t, 0, none⟩ = some (.complex .f64 (fi a.1 false) (fi a.2 false)) ∧ w'.cell? ⟨t, 1, none⟩ = some (.complex .f64 (fi v.1 false) (fi v.2 false))) (go_keep)
    ((go_at_call 50; (with_reducible refine Calls.mono (hb.out _) ?_); rintro e w1_ ⟨rfl, hb1⟩; have kS : w1_.cell? ⟨t, 0, none⟩ = some (.complex .f64 (fi a.1 false) (fi a.2 false)) ∧ w1_.cell? ⟨t, 1, none⟩ = some (.complex .f64 (fi v.1 false) (fi v.2 false)) := ⟨(hb1.cell (p := ⟨t, 0, none⟩) htl).trans c0, (hb1.cell (p := ⟨t, 1, none⟩) htl).trans c1⟩; replace hb1 := Lib.hid hb1))
  all_goals
    rename_i hHeld_
    clear hHeld_ kS tf run1 run2 hrun c0 c1 h1 h2 hb
    have hB := ((Below.refl w.heap.size w).drew).trans hb1.out
    have T2 := T.out.bel hB
    clear hb1
    have c0 := T2.bk.cell 0
    have c2 := T2.bk.cell 2
    have c3 := T2.bk.cell 3
    have f0 := T2.bk.free 0
    have f3 := T2.bk.free 3
    simp [cw] at c0 c2 c3
    replace T2 := Lib.hid T2
    replace hB := Lib.hid hB
  all_goals
    obtain rfl : m = 4096 := by rw [← hm.out]; exact h4
    have hn0 : (n != 0) = true := by simpa using h0
    clear h4
    go_wp2_with (fail)
    go_returns
    exact ⟨rfl, hB.out⟩
set_option maxRecDepth 100000 in
set_option maxHeartbeats 2000000 in
theorem tfwd_go (T : Tt w base t V a v dn ms) (n : Int) (hn : Sm (toZ a v n) 16777216) (h0 : dn = false ∨ n = 0) : Calls Tryd.prog 21 #[.pointer (some ⟨t, 0, none⟩), .int .i64 n] w fun e w' => e = .returned (.int .i64 0) ∧ Tt w' base t V (toZ a v n) v dn ms ∧ Trd t V.ownBlock w w' := by
  have hbig : ¬ (33554432 < n ∨ n < -33554432) := fun g => to_far T.sa T.un g hn
  have hs := T.un.sm
  have hsa := T.sa
  have hmu := mul_unit T.un n
  have h1 : ¬ (33554432 : Int) < n := by omega
  have h2 : ¬ n < (-33554432 : Int) := by omega
  have tf := fun w => toFloat_run n (by omega) w
  have hwn : Wd (fi n false) n := wd_fi n false (by omega)
  obtain ⟨r1, hr1, hw1⟩ := wd_mul hwn (wz_nm (sm_mono hs (by decide))).1 (by omega)
  obtain ⟨r2, hr2, hw2⟩ := wd_mul hwn (wz_nm (sm_mono hs (by decide))).2 (by omega)
  unfold wz at hr1 hr2
  simp only at hr1 hr2
  have run1 := fun t w => run_float_arith (P := Tryd.prog) w .mul t .f64 _ _ r1 hr1
  have run2 := fun t w => run_float_arith (P := Tryd.prog) w .mul t .f64 _ _ r2 hr2
  obtain ⟨⟨s1, s2⟩, hsN, hrun⟩ := nm_sum (x := wz a) (y := (r1, r2)) (wz_nm hsa) ⟨hw1, hw2⟩ (sm_mono hsa (by decide)) (b := (n * v.1, n * v.2)) (by unfold Sm; omega) 43
  unfold wz at hrun
  simp only at hrun hsN
  have c0 := T.bk.cell 0
  have c1 := T.bk.cell 1
  simp [cw] at c0 c1
  have htl := T.bk.lt
  have hb := add_ok (0, 0) (s1, s2) (0, 0) (toZ a v n) ⟨wd_zero, wd_zero⟩ hsN (by unfold Sm; decide) hn
  have hz : res (0 + (toZ a v n).1, 0 + (toZ a v n).2) = .tuple #[cw (toZ a v n), .int .i64 0] := by
    rw [Int.zero_add, Int.zero_add]; exact res_small _ hn
  simp only at hb
  rw [hz] at hb
  obtain ⟨z, hzz⟩ : ∃ z, toZ a v n = z := ⟨_, rfl⟩
  rw [hzz] at hb hn
  try rw [hzz]
  try rw [hzz] at hax
  obtain ⟨m, hm⟩ : ∃ m, ms.length = m := ⟨_, rfl⟩
  have hm4 : (m : Int) ≤ 4096 := by have := T.le; omega
  obtain ⟨A, c, hV⟩ := own_form T.row
  rw [hm] at hV
  subst hV
  replace hb := Lib.hid hb
  replace T := Lib.hid T
  replace hn := Lib.hid hn
  replace hm := Lib.hid hm
  clear hs hsa hmu hwn hw1 hw2 hr1 hr2 hsN hbig hz hzz
  unfold cw at hb
  go_enter Tryd.func21, Tryd.ntmps21
  go_wp2_with (fail)
  go_region_held3 (fun w' => w'.cell? ⟨t, 0, none⟩ = some (.complex .f64 (fi a.1 false) (fi a.2 false)) ∧ w'.cell? ⟨t, 1, none⟩ = some (.complex .f64 (fi v.1 false) (fi v.2 false))) (go_keep)
    ((go_at_call 50; (with_reducible refine Calls.mono (hb.out _) ?_); rintro e w1_ ⟨rfl, hb1⟩; have kS : w1_.cell? ⟨t, 0, none⟩ = some (.complex .f64 (fi a.1 false) (fi a.2 false)) ∧ w1_.cell? ⟨t, 1, none⟩ = some (.complex .f64 (fi v.1 false) (fi v.2 false)) := ⟨(hb1.cell (p := ⟨t, 0, none⟩) htl).trans c0, (hb1.cell (p := ⟨t, 1, none⟩) htl).trans c1⟩; replace hb1 := Lib.hid hb1))
  all_goals
    rename_i hHeld_
    clear hHeld_ kS tf run1 run2 hrun c0 c1 h1 h2 hb
    have hB := ((Below.refl w.heap.size w).drew).trans hb1.out
    have T2 := T.out.bel hB
    clear hb1
    have c0 := T2.bk.cell 0
    have c2 := T2.bk.cell 2
    have c3 := T2.bk.cell 3
    have f0 := T2.bk.free 0
    have f3 := T2.bk.free 3
    simp [cw] at c0 c2 c3
    replace T2 := Lib.hid T2
    replace hB := Lib.hid hB
  all_goals
    have hfin : Tt (w1_.setCell ⟨t, 0, none⟩ (.complex .f64 (fi z.1 false) (fi z.2 false))) base t (.slice A m c) z v dn ms ∧ Trd t (Value.slice A m c).ownBlock w (w1_.setCell ⟨t, 0, none⟩ (.complex .f64 (fi z.1 false) (fi z.2 false))) :=
      ⟨T2.out.put (vs := #[]) (T2.out.bk.put 0 _) ((Only.refl t w1_).put 0 _) hn.out T2.out.un, (Trd.of_below hB.out).trans (Trd.of_only ((Only.refl t w1_).put 0 _))⟩
    replace hfin := Lib.hid hfin
    rcases h0 with rfl | rfl
    · go_wp2_with (fail)
      go_returns
      exact ⟨rfl, hfin.out⟩
    · cases dn
      · go_wp2_with (fail)
        go_returns
        exact ⟨rfl, hfin.out⟩
      · go_wp2_with (fail)
        go_returns
        exact ⟨rfl, hfin.out⟩
set_option maxRecDepth 100000 in
set_option maxHeartbeats 4000000 in
theorem tfwd_draw (T : Tt w base t V a v true ms) (n : Int) (hn : Sm (toZ a v n) 16777216) (h0 : n ≠ 0) (h4 : ms.length < 4096) (hbt : base ≤ w.heap.size) : Calls Tryd.prog 21 #[.pointer (some ⟨t, 0, none⟩), .int .i64 n] w fun e w' => e = .returned (.int .i64 0) ∧ ∃ V', Tt w' base t V' (toZ a v n) v true (ms ++ [(a, toZ a v n)]) ∧ Trd t V.ownBlock w w' ∧ (V'.ownBlock = V.ownBlock ∨ ∀ k, V'.ownBlock = some k → w.heap.size ≤ k) := by
  have hax : mkOk (a, toZ a v n) := by
    refine ⟨T.sa, hn, ?_⟩
    unfold toZ
    rcases T.un with h | h | h | h <;> rw [h] <;> simp only <;> omega
  have hbig : ¬ (33554432 < n ∨ n < -33554432) := fun g => to_far T.sa T.un g hn
  have hs := T.un.sm
  have hsa := T.sa
  have hmu := mul_unit T.un n
  have h1 : ¬ (33554432 : Int) < n := by omega
  have h2 : ¬ n < (-33554432 : Int) := by omega
  have tf := fun w => toFloat_run n (by omega) w
  have hwn : Wd (fi n false) n := wd_fi n false (by omega)
  obtain ⟨r1, hr1, hw1⟩ := wd_mul hwn (wz_nm (sm_mono hs (by decide))).1 (by omega)
  obtain ⟨r2, hr2, hw2⟩ := wd_mul hwn (wz_nm (sm_mono hs (by decide))).2 (by omega)
  unfold wz at hr1 hr2
  simp only at hr1 hr2
  have run1 := fun t w => run_float_arith (P := Tryd.prog) w .mul t .f64 _ _ r1 hr1
  have run2 := fun t w => run_float_arith (P := Tryd.prog) w .mul t .f64 _ _ r2 hr2
  obtain ⟨⟨s1, s2⟩, hsN, hrun⟩ := nm_sum (x := wz a) (y := (r1, r2)) (wz_nm hsa) ⟨hw1, hw2⟩ (sm_mono hsa (by decide)) (b := (n * v.1, n * v.2)) (by unfold Sm; omega) 43
  unfold wz at hrun
  simp only at hrun hsN
  have c0 := T.bk.cell 0
  have c1 := T.bk.cell 1
  simp [cw] at c0 c1
  have htl := T.bk.lt
  have hb := add_ok (0, 0) (s1, s2) (0, 0) (toZ a v n) ⟨wd_zero, wd_zero⟩ hsN (by unfold Sm; decide) hn
  have hz : res (0 + (toZ a v n).1, 0 + (toZ a v n).2) = .tuple #[cw (toZ a v n), .int .i64 0] := by
    rw [Int.zero_add, Int.zero_add]; exact res_small _ hn
  simp only at hb
  rw [hz] at hb
  obtain ⟨z, hzz⟩ : ∃ z, toZ a v n = z := ⟨_, rfl⟩
  rw [hzz] at hb hn
  try rw [hzz]
  try rw [hzz] at hax
  obtain ⟨m, hm⟩ : ∃ m, ms.length = m := ⟨_, rfl⟩
  have hm4 : (m : Int) ≤ 4096 := by have := T.le; omega
  obtain ⟨A, c, hV⟩ := own_form T.row
  rw [hm] at hV
  subst hV
  replace hb := Lib.hid hb
  replace T := Lib.hid T
  replace hn := Lib.hid hn
  replace hm := Lib.hid hm
  clear hs hsa hmu hwn hw1 hw2 hr1 hr2 hsN hbig hz hzz
  unfold cw at hb
  go_enter Tryd.func21, Tryd.ntmps21
  go_wp2_with (fail)
  go_region_held3 (fun w' => w'.cell? ⟨t, 0, none⟩ = some (.complex .f64 (fi a.1 false) (fi a.2 false)) ∧ w'.cell? ⟨t, 1, none⟩ = some (.complex .f64 (fi v.1 false) (fi v.2 false))) (go_keep)
    ((go_at_call 50; (with_reducible refine Calls.mono (hb.out _) ?_); rintro e w1_ ⟨rfl, hb1⟩; have kS : w1_.cell? ⟨t, 0, none⟩ = some (.complex .f64 (fi a.1 false) (fi a.2 false)) ∧ w1_.cell? ⟨t, 1, none⟩ = some (.complex .f64 (fi v.1 false) (fi v.2 false)) := ⟨(hb1.cell (p := ⟨t, 0, none⟩) htl).trans c0, (hb1.cell (p := ⟨t, 1, none⟩) htl).trans c1⟩; replace hb1 := Lib.hid hb1))
  all_goals
    rename_i hHeld_
    clear hHeld_ kS tf run1 run2 hrun c0 c1 h1 h2 hb
    have hB := ((Below.refl w.heap.size w).drew).trans hb1.out
    have T2 := T.out.bel hB
    clear hb1
    have c0 := T2.bk.cell 0
    have c2 := T2.bk.cell 2
    have c3 := T2.bk.cell 3
    have f0 := T2.bk.free 0
    have f3 := T2.bk.free 3
    simp [cw] at c0 c2 c3
    replace T2 := Lib.hid T2
    replace hB := Lib.hid hB
  all_goals
    have hn0 : (n != 0) = true := by simpa using h0
    have hm0 : ((m : Int) == 4096) = false := by have := hm.out; simp; omega
    have hwz : w.heap.size ≤ w1_.heap.size := hB.out.size
    obtain ⟨A', c', w2, hrun, hown, hgr, hnew⟩ := mk_append (w := w1_.drew) (V := .slice A m c) (a, z) T2.out.draw.row (Nat.le_trans hbt hwz) (by omega)
    rw [hm.out] at hrun hown hnew
    simp only at hrun
    unfold cw at hrun
    have T3 := T2.out.draw.bel ((Below.refl _ _).alloc (Nat.le_refl _) (.cells #[.complex .f64 (fi a.1 false) (fi a.2 false), .complex .f64 (fi z.1 false) (fi z.2 false)] 65))
    have hb3 := T2.out.draw.bk.grown hgr T2.out.row_ne.symm
    have hB3 : Trd t (Value.slice A m c).ownBlock w w2 := (Trd.of_below (below_drew hB.out)).trans (Trd.of_grown hgr)
    have g0 := hb3.cell 0
    have g3 := hb3.cell 3
    have e0 := hb3.free 0
    have e3 := hb3.free 3
    simp [cw] at g0 g3
    have hfin : Tt ((w2.setCell ⟨t, 3, none⟩ (.slice A' (m + 1) c')).setCell ⟨t, 0, none⟩ (.complex .f64 (fi z.1 false) (fi z.2 false))) base t (.slice A' (m + 1) c') z v true (ms ++ [(a, z)]) := by
      have hO := ((Only.refl t w2).put 3 (.slice A' (m + 1) c')).put 0 (.complex .f64 (fi z.1 false) (fi z.2 false))
      refine ⟨(hb3.put 3 _).put 0 _, own_only hown hO ?_, hn.out, T2.out.un, fun i hi => ?_, by have := hm.out; simp; omega⟩
      · rcases hnew with h1 | h1
        · rw [h1]; exact T2.out.row_ne
        · intro e
          have h1 := h1 t e
          have := T2.out.bk.lt
          have : t < w1_.drew.heap.size := this
          omega
      · by_cases hi2 : i < ms.length
        · have := T2.out.ok i hi2
          rw [List.getD_eq_getElem?_getD] at this ⊢
          rw [List.getElem?_append_left hi2]
          exact this
        · obtain rfl : i = ms.length := by simp at hi; omega
          rw [List.getD_eq_getElem?_getD, List.getElem?_append_right (Nat.le_refl _), Nat.sub_self]
          exact hax
    have hT2 := hB3.trans (Trd.of_only (row := (Value.slice A m c).ownBlock) (((Only.refl t w2).put 3 (.slice A' (m + 1) c')).put 0 (.complex .f64 (fi z.1 false) (fi z.2 false))))
    have hnew2 : (Value.slice A' (m + 1) c').ownBlock = (Value.slice A m c).ownBlock ∨ ∀ k, (Value.slice A' (m + 1) c').ownBlock = some k → w.heap.size ≤ k := by
      rcases hnew with h1 | h1
      · exact .inl h1
      · exact .inr (fun k hk => Nat.le_trans hwz (h1 k hk))
    replace hfin := Lib.hid hfin
    replace hT2 := Lib.hid hT2
    replace hnew2 := Lib.hid hnew2
    replace hrun := Lib.hid hrun
    clear hown hgr hnew T3 hb3 hB3 hwz hbt htl hax h4
    have c0d : w1_.drew.cell? ⟨t, 0, none⟩ = some (.complex .f64 (fi a.1 false) (fi a.2 false)) := c0
    have c3d : w1_.drew.cell? ⟨t, 3, none⟩ = some (.slice A m c) := c3
    go_wp2_with (fail)
    clear c0 c3 c2
    refine wp_region_held_drew (S := fun W_ => W_.cell? ⟨t, 0, none⟩ = some (.complex .f64 (fi a.1 false) (fi a.2 false))) (by kernel_rfl) c0d (fun hHeld => ?_)
    refine wpAnyH_take (i := 0) (oi := { dst := some 60, op := _, type := _, pos := _, after := _, guard := _ }) (v := ?_) rfl (by kernel_rfl) (by kernel_rfl) (by kernel_rfl) (fun _ _ _ h => h) (Or.inl ⟨by rfl, ?_⟩) (by assumption) ?_
    rotate_left
    focus ((intro w hSw); (try dsimp only at hSw); go_simp; (try (with_reducible rfl)))
    try simp only [Act.put, List.setIfInBounds_toArray, List.set_cons_zero, List.set_cons_succ]
    refine wpAnyH_take (i := 1) (oi := { dst := some 61, op := _, type := _, pos := _, after := _, guard := _ }) (v := ?_) rfl (by kernel_rfl) (by kernel_rfl) (by kernel_rfl) (fun _ _ _ h => h) (Or.inl ⟨by rfl, ?_⟩) (by assumption) ?_
    rotate_left
    focus ((intro w hSw); (try dsimp only at hSw); go_simp; (try (with_reducible rfl)))
    try simp only [Act.put, List.setIfInBounds_toArray, List.set_cons_zero, List.set_cons_succ]
    refine wpAnyH_take (i := 2) (oi := { dst := some 62, op := _, type := _, pos := _, after := _, guard := _ }) (v := ?_) rfl (by kernel_rfl) (by kernel_rfl) (by kernel_rfl) (fun _ _ _ h => h) (Or.inl ⟨by rfl, ?_⟩) (by assumption) ?_
    rotate_left
    focus ((intro w hSw); (try dsimp only at hSw); go_simp; (try (with_reducible rfl)))
    try simp only [Act.put, List.setIfInBounds_toArray, List.set_cons_zero, List.set_cons_succ]
    refine wpAnyH_take (i := 3) (oi := { dst := some 63, op := _, type := _, pos := _, after := _, guard := _ }) (v := ?_) rfl (by kernel_rfl) (by kernel_rfl) (by kernel_rfl) (fun _ _ _ h => h) (Or.inl ⟨by rfl, ?_⟩) (by assumption) ?_
    rotate_left
    focus ((intro w hSw); (try dsimp only at hSw); go_simp; (try (with_reducible rfl)))
    try simp only [Act.put, List.setIfInBounds_toArray, List.set_cons_zero, List.set_cons_succ]
    refine wpAnyH_take (i := 5) (oi := { dst := some 65, op := _, type := _, pos := _, after := _, guard := _ }) (v := ?_) rfl (by kernel_rfl) (by kernel_rfl) (by kernel_rfl) (fun _ _ _ h => h) (Or.inl ⟨by rfl, ?_⟩) (by assumption) ?_
    rotate_left
    focus ((intro w hSw); (try dsimp only at hSw); go_simp; (try (with_reducible rfl)))
    try simp only [Act.put, List.setIfInBounds_toArray, List.set_cons_zero, List.set_cons_succ]
    refine wpAnyH_take (i := 6) (oi := { dst := some 66, op := _, type := _, pos := _, after := _, guard := _ }) (v := ?_) rfl (by kernel_rfl) (by kernel_rfl) (by kernel_rfl) (fun _ _ _ h => h) (Or.inl ⟨by rfl, ?_⟩) (by assumption) ?_
    rotate_left
    focus ((intro w hSw); (try dsimp only at hSw); go_simp; (try (with_reducible rfl)))
    try simp only [Act.put, List.setIfInBounds_toArray, List.set_cons_zero, List.set_cons_succ]
    refine wpAnyH_take (i := 7) (oi := { dst := some 67, op := _, type := _, pos := _, after := _, guard := _ }) (v := ?_) rfl (by kernel_rfl) (by kernel_rfl) (by kernel_rfl) (fun _ _ _ h => h) (Or.inl ⟨by rfl, ?_⟩) (by assumption) ?_
    rotate_left
    focus ((intro w hSw); (try dsimp only at hSw); go_simp; (try (with_reducible rfl)))
    try simp only [Act.put, List.setIfInBounds_toArray, List.set_cons_zero, List.set_cons_succ]
    refine wpAnyH_take (i := 8) (oi := { dst := some 68, op := _, type := _, pos := _, after := _, guard := _ }) (v := ?_) rfl (by kernel_rfl) (by kernel_rfl) (by kernel_rfl) (fun _ _ _ h => h) (Or.inl ⟨by rfl, ?_⟩) (by assumption) ?_
    rotate_left
    focus ((intro w hSw); (try dsimp only at hSw); go_simp; (try (with_reducible rfl)))
    try simp only [Act.put, List.setIfInBounds_toArray, List.set_cons_zero, List.set_cons_succ]
    refine wpAnyH_take (i := 9) (oi := { dst := some 69, op := _, type := _, pos := _, after := _, guard := _ }) (v := ?_) rfl (by kernel_rfl) (by kernel_rfl) (by kernel_rfl) (fun _ _ _ h => h) (Or.inl ⟨by rfl, ?_⟩) (by assumption) ?_
    rotate_left
    focus ((intro w hSw); (try dsimp only at hSw); go_simp; (try (with_reducible rfl)))
    try simp only [Act.put, List.setIfInBounds_toArray, List.set_cons_zero, List.set_cons_succ]
    refine wpAnyH_take (i := 10) (oi := { dst := some 70, op := _, type := _, pos := _, after := _, guard := _ }) (v := ?_) rfl (by kernel_rfl) (by kernel_rfl) (by kernel_rfl) (fun _ _ _ h => h) (Or.inl ⟨by rfl, ?_⟩) (by assumption) ?_
    rotate_left
    focus ((intro w hSw); (try dsimp only at hSw); go_simp; (try (with_reducible rfl)))
    try simp only [Act.put, List.setIfInBounds_toArray, List.set_cons_zero, List.set_cons_succ]
    clear hHeld
    have k0 : (w1_.drew.alloc (.cells #[.complex .f64 (fi a.1 false) (fi a.2 false), .complex .f64 (fi z.1 false) (fi z.2 false)] 65)).cell? ⟨t, 0, none⟩ = some (.complex .f64 (fi a.1 false) (fi a.2 false)) := (T2.out.draw.bk.past _).cell 0
    have k3 : (w1_.drew.alloc (.cells #[.complex .f64 (fi a.1 false) (fi a.2 false), .complex .f64 (fi z.1 false) (fi z.2 false)] 65)).cell? ⟨t, 3, none⟩ = some (.slice A m c) := (T2.out.draw.bk.past _).cell 3
    have k3' : (w1_.alloc (.cells #[.complex .f64 (fi a.1 false) (fi a.2 false), .complex .f64 (fi z.1 false) (fi z.2 false)] 65)).cell? ⟨t, 3, none⟩ = some (.slice A m c) := (T2.out.bk.past _).cell 3
    have g9 : (w2.setCell ⟨t, 3, none⟩ (.slice A' (m + 1) c')).cell? ⟨t, 0, none⟩ = some (.complex .f64 (fi a.1 false) (fi a.2 false)) := by rw [World.cell?_setCell_other _ _ _ _ (by intro g; injection g with _ g; cases g)]; exact g0
    have e9 : (w2.setCell ⟨t, 3, none⟩ (.slice A' (m + 1) c')).frozen? ⟨t, 0, none⟩ = false := by rw [World.frozen?_setCell]; exact e0
    refine wpAnyH_ready (rs := [4, 11]) (by kernel_rfl) (by simp) ?_
    refine AllReadyH.cons (o := { dst := some 64, op := _, type := _, pos := _, after := _, guard := _ }) rfl (fun K hK => ?_) (AllReadyH.cons (o := { dst := some 71, op := _, type := _, pos := _, after := _, guard := _ }) rfl (fun K hK => ?_) AllReadyH.nil)
    · have z := hK
      go_simp
      refine hK _ _ c0d (fun hHeld => ?_)
      clear hK K hHeld z
      try simp only [Act.put, List.setIfInBounds_toArray, List.set_cons_zero, List.set_cons_succ]
      refine wpAnyH_ready (rs := [11]) (by kernel_rfl) (by simp) ?_
      refine AllReadyH.cons (o := { dst := some 71, op := _, type := _, pos := _, after := _, guard := _ }) rfl (fun K hK => ?_) AllReadyH.nil
      go_simp
      refine hK _ _ k0 (fun hHeld => ?_)
      clear hK K hHeld
      try simp only [Act.put, List.setIfInBounds_toArray, List.set_cons_zero, List.set_cons_succ]
      refine wpAnyH_ready (rs := [12]) (by kernel_rfl) (by simp) ?_
      refine AllReadyH.cons (o := { dst := some 72, op := _, type := _, pos := _, after := _, guard := _ }) rfl (fun K hK => ?_) AllReadyH.nil
      refine step_append_run rfl (.tmp 64) (.tmp 71) 24 rfl (.slice A m c) _ _ rfl rfl hrun.out ?_
      refine hK _ _ g0 (fun hHeld => ?_)
      clear hK K
      try simp only [Act.put, List.setIfInBounds_toArray, List.set_cons_zero, List.set_cons_succ]
      refine wpAnyH_take (i := 13) (oi := { dst := some 73, op := _, type := _, pos := _, after := _, guard := _ }) (v := ?_) rfl (by kernel_rfl) (by kernel_rfl) (by kernel_rfl) (fun _ _ _ h => h) (Or.inl ⟨by rfl, ?_⟩) (by assumption) ?_
      rotate_left
      focus ((intro w hSw); (try dsimp only at hSw); go_simp; (try (with_reducible rfl)))
      try simp only [Act.put, List.setIfInBounds_toArray, List.set_cons_zero, List.set_cons_succ]
      refine wpAnyH_take (i := 14) (oi := { dst := some 74, op := _, type := _, pos := _, after := _, guard := _ }) (v := ?_) rfl (by kernel_rfl) (by kernel_rfl) (by kernel_rfl) (fun _ _ _ h => h) (Or.inl ⟨by rfl, ?_⟩) (by assumption) ?_
      rotate_left
      focus ((intro w hSw); (try dsimp only at hSw); go_simp; (try (with_reducible rfl)))
      try simp only [Act.put, List.setIfInBounds_toArray, List.set_cons_zero, List.set_cons_succ]
      clear hHeld
      refine wpAnyH_ready (rs := [15]) (by kernel_rfl) (by simp) ?_
      refine AllReadyH.cons (o := { dst := none, op := _, type := _, pos := _, after := _, guard := _ }) rfl (fun K hK => ?_) AllReadyH.nil
      go_simp
      refine hK _ _ g9 (fun hHeld => ?_)
      clear hK K hHeld
      try simp only [Act.put, List.setIfInBounds_toArray, List.set_cons_zero, List.set_cons_succ]
      refine wpAnyH_done (by kernel_rfl) ?_ _
      go_wp2_with (fail)
      go_returns
      exact ⟨rfl, _, hfin.out, hT2.out, hnew2.out⟩
    · have z := hK
      go_simp
      refine hK _ _ k0 (fun hHeld => ?_)
      clear hK K hHeld z
      try simp only [Act.put, List.setIfInBounds_toArray, List.set_cons_zero, List.set_cons_succ]
      refine wpAnyH_ready (rs := [4]) (by kernel_rfl) (by simp) ?_
      refine AllReadyH.cons (o := { dst := some 64, op := _, type := _, pos := _, after := _, guard := _ }) rfl (fun K hK => ?_) AllReadyH.nil
      go_simp
      refine hK _ _ k0 (fun hHeld => ?_)
      clear hK K hHeld
      try simp only [Act.put, List.setIfInBounds_toArray, List.set_cons_zero, List.set_cons_succ]
      refine wpAnyH_ready (rs := [12]) (by kernel_rfl) (by simp) ?_
      refine AllReadyH.cons (o := { dst := some 72, op := _, type := _, pos := _, after := _, guard := _ }) rfl (fun K hK => ?_) AllReadyH.nil
      refine step_append_run rfl (.tmp 64) (.tmp 71) 24 rfl (.slice A m c) _ _ rfl rfl hrun.out ?_
      refine hK _ _ g0 (fun hHeld => ?_)
      clear hK K
      try simp only [Act.put, List.setIfInBounds_toArray, List.set_cons_zero, List.set_cons_succ]
      refine wpAnyH_take (i := 13) (oi := { dst := some 73, op := _, type := _, pos := _, after := _, guard := _ }) (v := ?_) rfl (by kernel_rfl) (by kernel_rfl) (by kernel_rfl) (fun _ _ _ h => h) (Or.inl ⟨by rfl, ?_⟩) (by assumption) ?_
      rotate_left
      focus ((intro w hSw); (try dsimp only at hSw); go_simp; (try (with_reducible rfl)))
      try simp only [Act.put, List.setIfInBounds_toArray, List.set_cons_zero, List.set_cons_succ]
      refine wpAnyH_take (i := 14) (oi := { dst := some 74, op := _, type := _, pos := _, after := _, guard := _ }) (v := ?_) rfl (by kernel_rfl) (by kernel_rfl) (by kernel_rfl) (fun _ _ _ h => h) (Or.inl ⟨by rfl, ?_⟩) (by assumption) ?_
      rotate_left
      focus ((intro w hSw); (try dsimp only at hSw); go_simp; (try (with_reducible rfl)))
      try simp only [Act.put, List.setIfInBounds_toArray, List.set_cons_zero, List.set_cons_succ]
      clear hHeld
      refine wpAnyH_ready (rs := [15]) (by kernel_rfl) (by simp) ?_
      refine AllReadyH.cons (o := { dst := none, op := _, type := _, pos := _, after := _, guard := _ }) rfl (fun K hK => ?_) AllReadyH.nil
      go_simp
      refine hK _ _ g9 (fun hHeld => ?_)
      clear hK K hHeld
      try simp only [Act.put, List.setIfInBounds_toArray, List.set_cons_zero, List.set_cons_succ]
      refine wpAnyH_done (by kernel_rfl) ?_ _
      go_wp2_with (fail)
      go_returns
      exact ⟨rfl, _, hfin.out, hT2.out, hnew2.out⟩
end
end Go.Proofs.YtndgcndmkfjdgaaDoor
