import Derived.Test.YtmfffaocmboelaaFwB
import Derived.StillTailTactics
import Derived.Deep.RegionLaw
namespace Go.Proofs.Ytmfffaocmboelaa
open Go.RowKit
set_option linter.unusedVariables false
set_option linter.unusedSimpArgs false
/-! what a region or a walk makes of an append whose run is known -/
theorem wpList_append_run {P : Program} {w w2 : World} {ops : Array Oper} {rest : List Oper} {o : Oper} {a : Act} {Q : Exit → Act → World → Prop} (hgd : o.guard = none) (s x : Operand) (t : TypeId)
    (ho : o.op = .call { callee := .builtin .append, args := #[s, x], argTypes := #[t, t] }) (v0 v1 V : Value) (hs : a.eval s = v0) (hx : a.eval x = V)
    (hrun : (Builtin.append_ #[t, t] o.type #[v0, V]).run P w = .ok v1 w2) (h : wpList P ops Q rest (a.put o.dst v1) w2) : wpList P ops Q (o :: rest) a w := by
  refine wpList_plain hgd fun K hK => ?_
  unfold Oper.wp execOp
  simp only [ho, resolve, invoke, builtin, Sem.run_bind, Sem.run_pure, Result.andThen_ok, List.map_toArray, List.map_cons, List.map_nil, hs, hx, hrun]
  exact hK _ _ h
theorem step_append_run {P : Program} {w w2 : World} {ops : Array Oper} {o : Oper} {a : Act} {K : Act → World → Prop} {Q : Exit → Act → World → Prop} {E : Prop} (hgd : o.guard = none) (s x : Operand) (t : TypeId)
    (ho : o.op = .call { callee := .builtin .append, args := #[s, x], argTypes := #[t, t] }) (v0 v1 V : Value) (hs : a.eval s = v0) (hx : a.eval x = V)
    (hrun : (Builtin.append_ #[t, t] o.type #[v0, V]).run P w = .ok v1 w2) (h : K (a.put o.dst v1) w2) :
    if Region.wanted o (yielded ops a.tmps) = true then Oper.wp P o a w K Q else E := by
  have hw : Region.wanted o (yielded ops a.tmps) = true := by simp [Region.wanted, hgd]
  rw [if_pos hw]
  unfold Oper.wp execOp
  simp only [ho, resolve, invoke, builtin, Sem.run_bind, Sem.run_pure, Result.andThen_ok, List.map_toArray, List.map_cons, List.map_nil, hs, hx, hrun]
  exact h
/-- what holds of s may turn, and what is new -/
structure Onl (s : Nat → Prop) (W W' : World) : Prop where
  os : W'.os = W.os
  tape : W'.tape = W.tape
  output : W'.output = W.output
  size : W.heap.size ≤ W'.heap.size
  block : ∀ k, k < W.heap.size → ¬ s k → W'.heap[k]? = W.heap[k]?
section
variable {s : Nat → Prop} {a b c : World}
theorem Onl.refl (s : Nat → Prop) (a : World) : Onl s a a := ⟨rfl, rfl, rfl, Nat.le_refl _, fun _ _ _ => rfl⟩
theorem Onl.trans (h : Onl s a b) (k : Onl s b c) : Onl s a c :=
  ⟨k.os.trans h.os, k.tape.trans h.tape, k.output.trans h.output, Nat.le_trans h.size k.size, fun i hi hn => (k.block i (Nat.lt_of_lt_of_le hi h.size) hn).trans (h.block i hi hn)⟩
theorem Onl.grow {t : Nat → Prop} (h : Onl s a b) (ht : ∀ k, k < a.heap.size → s k → t k) : Onl t a b := ⟨h.os, h.tape, h.output, h.size, fun k hk hn => h.block k hk (fun e => hn (ht k hk e))⟩
theorem Onl.draws (h : Onl s a b) (n : Nat) : Onl s a (b.drewN n) := ⟨h.os, h.tape, h.output, h.size, h.block⟩
theorem Onl.draw (h : Onl s a b) : Onl s a b.drew := ⟨h.os, h.tape, h.output, h.size, h.block⟩
theorem Onl.past (h : Onl s a b) (o : Obj) : Onl s a (b.alloc o) :=
  ⟨h.os, h.tape, h.output, Nat.le_trans h.size (by simp), fun k hk hn => (Below.heap_alloc b o k (Nat.lt_of_lt_of_le hk h.size)).trans (h.block k hk hn)⟩
theorem Onl.of_below {B : Nat} (h : Below B a b) (hs : ∀ k, k < a.heap.size → ¬ s k → k < B) : Onl s a b := ⟨h.os, h.tape, h.output, h.size, fun k hk hn => h.block k (hs k hk hn)⟩
theorem Onl.of_new (h : Below a.heap.size a b) : Onl s a b := Onl.of_below h (fun k hk _ => hk)
theorem Onl.below (h : Onl s a b) {B : Nat} (hB : B ≤ a.heap.size) (hs : ∀ k, s k → B ≤ k) : Below B a b := ⟨h.os, h.tape, h.output, h.size, fun k hk => h.block k (by omega) (fun e => by have := hs k e; omega)⟩
theorem Onl.put (h : Onl s a b) {p : Addr} (hp : s p.block ∨ a.heap.size ≤ p.block) (u : Value) : Onl s a (b.setCell p u) :=
  ⟨h.os, h.tape, h.output, by simpa [World.setCell] using h.size, fun k hk hn => (Below.heap_setCell b p u k (by rintro rfl; exact hp.elim hn (fun h1 => by omega))).trans (h.block k hk hn)⟩
theorem Onl.bk {k : Nat} {t : TypeId} {vs : Array Value} (h : Onl s a b) (hk : Bk a k t vs) (hn : ¬ s k) : Bk b k t vs := (h.block k hk.lt hn).trans hk
theorem Onl.row {base n size : Nat} {e : TypeId} {v : Value} {xs : List Value} (h : Onl s a b) (hr : a.ownsRow base e size v n xs) (hn : ∀ g, v.ownBlock = some g → ¬ s g) : b.ownsRow base e size v n xs := by
  refine ⟨hr.1, ?_⟩
  rcases hr.2 with hn0 | ⟨k, cap, cur, rfl, hb, hgg, rest⟩
  · exact .inl hn0
  · refine .inr ⟨k, cap, cur, rfl, hb, ?_, rest⟩
    rw [h.block k (Array.getElem?_eq_some_iff.1 hgg).1 (hn k (by simp [Value.ownBlock]))]
    exact hgg
theorem Onl.of_grown {row : Option Nat} (h : a.grownBy b row) (hs : ∀ k, row = some k → s k) : Onl s a b := ⟨h.os, h.tape, h.output, h.size, fun k hk hn => h.block k hk (fun e => hn (hs k e.symm))⟩
theorem below_grown {B : Nat} {row : Option Nat} (h : Below B a b) (hg : b.grownBy c row) (hB : B ≤ b.heap.size) (hr : ∀ k, row = some k → B ≤ k) : Below B a c :=
  ⟨hg.os.trans h.os, hg.tape.trans h.tape, hg.output.trans h.output, Nat.le_trans h.size hg.size, fun k hk => (hg.block k (by omega) (fun e => by have := hr k e.symm; omega)).trans (h.block k hk)⟩
end
theorem own_ge {W : World} {base n size : Nat} {e : TypeId} {v : Value} {xs : List Value} (h : W.ownsRow base e size v n xs) : ∀ k, v.ownBlock = some k → base ≤ k := by
  intro k hk
  rcases h.2 with ⟨rfl, _⟩ | ⟨g, cap, cur, rfl, hb, _⟩
  · simp [Value.ownBlock] at hk
  · simp [Value.ownBlock] at hk; omega
theorem own_kept {W W' : World} {base size n : Nat} {e : TypeId} {v : Value} {xs : List Value} {B : Nat} (h : W.ownsRow base e size v n xs) (hb : Below B W W') (hB : ∀ g, v.ownBlock = some g → g < B) : W'.ownsRow base e size v n xs := by
  refine ⟨h.1, ?_⟩
  rcases h.2 with hn | ⟨k, cap, cur, rfl, hb0, hgg, rest⟩
  · exact .inl hn
  · refine .inr ⟨k, cap, cur, rfl, hb0, ?_, rest⟩
    rw [hb.block k (hB k (by simp [Value.ownBlock]))]
    exact hgg
/-! acts -/
structure Ac where
  patch : Bool
  at_ : Int
  op : Int
  tgt : Int
def Ac.cells (a : Ac) : List Value := [.bool a.patch, .int .i64 a.at_, .int .i64 a.op, .int .i64 a.tgt]
def actC (l : List Ac) : List Value := l.flatMap Ac.cells
theorem actC_push (l : List Ac) (a : Ac) : actC l ++ a.cells = actC (l ++ [a]) := by simp [actC]
theorem info_act : (Try.prog.info? 36).map (fun i => (i.zero, i.size, i.bytes)) = some (some (.agg #[.bool false, .int .i64 0, .int .i64 0, .int .i64 0]), 4, 32) := by kernel_rfl
theorem info_int : (Try.prog.info? 3).map (fun i => (i.zero, i.size, i.bytes)) = some (some (.int .i64 0), 1, 8) := by kernel_rfl
/-- a word that is being done -/
structure Wk (W : World) (b : Nat) (v : Value) (l : List Ac) (here behind : Int) (T : Addr) (n0 n1 n2 n3 : Value) : Prop where
  bk : Bk W b 64 #[v, .int .i64 here, .int .i64 behind, .pointer (some T), n0, n1, n2, n3]
  row : W.ownsRow (b + 1) 36 4 v l.length (actC l)
section
variable {w : World} {b : Nat} {v : Value} {l : List Ac} {here behind : Int} {T : Addr} {n0 n1 n2 n3 : Value}
set_option maxHeartbeats 1000000 in
theorem lay_onl (h : Wk w b v l here behind T n0 n1 n2 n3) (hl : l.length ≤ 100000) (op tg y : Int) (hy : IntKind.i64.wrap (behind + 8) = y) :
    Calls Try.prog 28 #[.pointer (some ⟨b, 0, none⟩), .int .i64 op, .int .i64 tg] w fun e w' => e = .returned (.tuple #[]) ∧ ∃ v', Wk w' b v' (l ++ [⟨false, behind, op, tg⟩]) here y T n0 n1 n2 n3 ∧ Below b w w' ∧ Onl (fun k => k = b ∨ v.ownBlock = some k) w w' := by
  obtain ⟨i9, hi, hz0, hz1, hz2⟩ := info_parts info_act
  have hlt := h.bk.lt
  have hrow := h.row.alloc (.cells #[.bool false, .int .i64 behind, .int .i64 op, .int .i64 tg] 36)
  obtain ⟨v', w2, hrun, hown, hgr, _⟩ := run_append_own (P := Try.prog) (w.drew.alloc (.cells #[.bool false, .int .i64 behind, .int .i64 op, .int .i64 tg] 36)) (b + 1) 25 25 36 i9 _ 4 32 Try.underlying25 hi hz0 hz1 hz2 rfl (by decide) v l.length (actC l) hrow ⟨w.heap.size, 0, none⟩ 1 1 (Ac.cells ⟨false, behind, op, tg⟩) rfl (fun j u hu => by
    have := (Bk.fresh w.drew 36 #[.bool false, .int .i64 behind, .int .i64 op, .int .i64 tg]).cell j
    rw [show ((⟨w.heap.size, 0, none⟩ : Addr).add j) = ⟨w.heap.size, j, none⟩ by unfold Addr.add; split <;> simp_all]
    exact this.trans (by simpa [Ac.cells] using hu)) (fun u hu => by simp [Ac.cells] at hu; rcases hu with rfl | rfl | rfl | rfl <;> rfl) (by unfold maxLen; omega) (by omega) (by simp; omega)
  have hne : ∀ k, v.ownBlock = some k → b + 1 ≤ k := own_ge h.row
  have hb0 : Below b w (w.drew.alloc (.cells #[.bool false, .int .i64 behind, .int .i64 op, .int .i64 tg] 36)) := ((Below.refl b w).drew).alloc (by show b ≤ w.heap.size; omega) _
  have hbel : Below b w w2 := below_grown hb0 hgr (by simp; omega) (fun k hk => by have := hne k hk; omega)
  have hbk1 : Bk (w.drew.alloc (.cells #[.bool false, .int .i64 behind, .int .i64 op, .int .i64 tg] 36)) b _ _ := h.bk.draw.past _
  have hbk2 : Bk w2 b _ _ := hbk1.grown hgr (fun e => by have := hne b e.symm; omega)
  have c0 := h.bk.cell 0
  have c2 := h.bk.cell 2
  have e0 : (w.alloc (.cells #[.bool false, .int .i64 behind, .int .i64 op, .int .i64 tg] 36)).cell? ⟨b, 0, none⟩ = some v := (h.bk.past _).cell 0
  have d2 := hbk2.cell 2
  have d0 := hbk2.cell 0
  have d1 := hbk2.free 0
  have d3 := hbk2.free 2
  simp at c0 c2 d2 d0
  obtain ⟨A', c', rfl⟩ := own_form hown
  have hOa : Onl (fun k => k = b ∨ v.ownBlock = some k) w w2 := (((Onl.refl _ w).draw).past _).trans (Onl.of_grown hgr (fun k hk => .inr hk))
  replace hOa := Lib.hid hOa
  clear hrow hb0 hbk1 hi hz0 hz1 hz2 hgr hne
  replace h := Lib.hid h
  replace hrun := Lib.hid hrun
  replace hown := Lib.hid hown
  replace hbel := Lib.hid hbel
  replace hbk2 := Lib.hid hbk2
  replace hlt := Lib.hid hlt
  replace hl := Lib.hid hl
  go_enter Try.func28, Try.ntmps28
  go_wp2_with (fail)
  go_region_law (refine step_append_run rfl (.tmp 10) (.tmp 18) 25 rfl v _ _ rfl rfl hrun.out ?_)
  all_goals (go_wp2_with (fail))
  all_goals (
    have hn : ∀ k, (Value.slice A' (l.length + 1) c').ownBlock = some k → ¬ k = b := fun k hk => by have := own_ge hown.out k hk; omega
    have hO : Onl (fun k => k = b) w2 ((w2.setCell ⟨b, 0, none⟩ (Value.slice A' (l.length + 1) c')).setCell ⟨b, 2, none⟩ (.int .i64 y)) := ((Onl.refl (fun k => k = b) w2).put (p := ⟨b, 0, none⟩) (.inl rfl) _).put (p := ⟨b, 2, none⟩) (.inl rfl) _
    have hr := hO.row hown.out hn
    rw [actC_push] at hr
    try go_end0
    refine ⟨rfl, _, ⟨(hbk2.out.put 0 _).put 2 _, by simpa using hr⟩, (hbel.out.setCell (Nat.le_refl _) _).setCell (Nat.le_refl _) _, (hOa.out.put (p := ⟨b, 0, none⟩) (.inl (.inl rfl)) _).put (p := ⟨b, 2, none⟩) (.inl (.inl rfl)) _⟩)
theorem lay_any (h : Wk w b v l here behind T n0 n1 n2 n3) (hl : l.length ≤ 100000) (op tg y : Int) (hy : IntKind.i64.wrap (behind + 8) = y) :
    Calls Try.prog 28 #[.pointer (some ⟨b, 0, none⟩), .int .i64 op, .int .i64 tg] w fun e w' => e = .returned (.tuple #[]) ∧ ∃ v', Wk w' b v' (l ++ [⟨false, behind, op, tg⟩]) here y T n0 n1 n2 n3 ∧ Below b w w' :=
  (lay_onl h hl op tg y hy).mono fun e w' ⟨h1, v', h2, h3, _⟩ => ⟨h1, v', h2, h3⟩
end
/-- ints that lie where a slice says -/
def Pls (w : World) (A : Option Addr) (vs : List Int) : Prop := vs = [] ∨ ∃ q cur, A = some ⟨q, 0, none⟩ ∧ Bk w q 3 cur ∧ ∀ i (h : i < vs.length), cur[i]? = some (.int .i64 vs[i])
theorem Bk.far {W : World} {base n q size : Nat} {e t : TypeId} {v : Value} {xs : List Value} {cur : Array Value} (hk : Bk W q t cur) (h : W.ownsRow base e size v n xs) (hne : t ≠ e) : some q ≠ v.ownBlock := by
  rcases h.2 with ⟨rfl, _⟩ | ⟨g, cap, cu, rfl, _, hg, _⟩
  · simp [Value.ownBlock]
  · simp only [Value.ownBlock]
    intro e1
    injection e1 with e1
    subst e1
    unfold Bk at hk
    rw [hk] at hg
    injection hg with hg
    injection hg with _ ht
    exact hne ht
def pas (vs : List Int) (tg : Int) : List Ac := vs.map fun p => ⟨true, p, 0, tg⟩
theorem pas_next (vs : List Int) (tg : Int) (j : Nat) (h : j < vs.length) : pas (vs.take (j + 1)) tg = pas (vs.take j) tg ++ [⟨true, vs[j], 0, tg⟩] := by
  unfold pas
  rw [List.take_succ_eq_append_getElem h, List.map_append]
  rfl
section
variable {w : World} {b : Nat} {v : Value} {l : List Ac} {here behind : Int} {T : Addr} {n0 n1 n2 n3 : Value}
theorem act_append {w : World} {b : Nat} {v : Value} {l : List Ac} (a : Ac) (h : w.ownsRow (b + 1) 36 4 v l.length (actC l)) (hb : b < w.heap.size) (hl : l.length ≤ 100000) :
    ∃ A' c' w2, (Builtin.append_ #[25, 25] 25 #[v, .slice (some ⟨w.heap.size, 0, none⟩) 1 1]).run Try.prog (w.alloc (.cells #[.bool a.patch, .int .i64 a.at_, .int .i64 a.op, .int .i64 a.tgt] 36)) = .ok (.slice A' (l ++ [a]).length c') w2 ∧
      w2.ownsRow (b + 1) 36 4 (.slice A' (l ++ [a]).length c') (l ++ [a]).length (actC (l ++ [a])) ∧ w.grownBy w2 v.ownBlock := by
  obtain ⟨i9, hi, hz0, hz1, hz2⟩ := info_parts info_act
  have hrow := h.alloc (.cells #[.bool a.patch, .int .i64 a.at_, .int .i64 a.op, .int .i64 a.tgt] 36)
  obtain ⟨v', w2, hrun, hown, hgr, _⟩ := run_append_own (P := Try.prog) (w.alloc (.cells #[.bool a.patch, .int .i64 a.at_, .int .i64 a.op, .int .i64 a.tgt] 36)) (b + 1) 25 25 36 i9 _ 4 32 Try.underlying25 hi hz0 hz1 hz2 rfl (by decide) v l.length (actC l) hrow ⟨w.heap.size, 0, none⟩ 1 1 a.cells rfl (fun j u hu => by
    have := (Bk.fresh w 36 #[.bool a.patch, .int .i64 a.at_, .int .i64 a.op, .int .i64 a.tgt]).cell j
    rw [show ((⟨w.heap.size, 0, none⟩ : Addr).add j) = ⟨w.heap.size, j, none⟩ by unfold Addr.add; split <;> simp_all]
    exact this.trans (by simpa [Ac.cells] using hu)) (fun u hu => by simp [Ac.cells] at hu; rcases hu with rfl | rfl | rfl | rfl <;> rfl) (by unfold maxLen; omega) (by omega) (by simp; omega)
  have e : l.length + 1 = (l ++ [a]).length := by simp
  rw [e, actC_push] at hown
  obtain ⟨A', c', rfl⟩ := own_form hown
  have hg0 := World.grownBy_alloc w (.cells #[.bool a.patch, .int .i64 a.at_, .int .i64 a.op, .int .i64 a.tgt] 36) v.ownBlock
  exact ⟨A', c', w2, hrun, hown, ⟨hgr.os.trans hg0.os, hgr.tape.trans hg0.tape, hgr.output.trans hg0.output, Nat.le_trans hg0.size hgr.size, fun k hk hn => (hgr.block k (Nat.lt_of_lt_of_le hk hg0.size) hn).trans (hg0.block k hk hn)⟩⟩
set_option maxHeartbeats 1000000 in
theorem patch_any (h : Wk w b v l here behind T n0 n1 n2 n3) (A : Option Addr) (c : Nat) (vs : List Int) (hv : Pls w A vs) (hl : l.length + vs.length ≤ 100000) (tg : Int) :
    Calls Try.prog 21 #[.pointer (some ⟨b, 0, none⟩), .int .i64 tg, .slice A vs.length c] w fun e w' => e = .returned (.tuple #[]) ∧ ∃ v', Wk w' b v' (l ++ pas vs tg) here behind T n0 n1 n2 n3 ∧ Below b w w' := by
  have hB0 : Below b w w := Below.refl _ _
  replace h := Lib.hid h
  replace hv := Lib.hid hv
  replace hB0 := Lib.hid hB0
  obtain ⟨n, hn⟩ : ∃ n, vs.length = n := ⟨_, rfl⟩
  rw [hn] at hl ⊢
  have hl3 : (n : Int) ≤ 100000 := by omega
  replace hn := Lib.hid hn
  replace hl := Lib.hid hl
  go_enter Try.func21, Try.ntmps21
  go_wp2_with (fail)
  go_loopw [10] (fun i wr => ∃ (j : Nat) (v' : Value), i = .int .i64 j ∧ j ≤ n ∧ Pls wr A vs ∧ Wk wr b v' (l ++ pas (vs.take j) tg) here behind T n0 n1 n2 n3 ∧ Below b w wr) (fun i _ => n - (intOf i).toNat)
  case atStart => exact ⟨0, v, rfl, by omega, hv.out, by simpa [pas] using h.out, hB0.out⟩
  case round =>
    obtain ⟨j, v', rfl, hj, hP, hW, hO⟩ := hrel
    clear hB0 h hv
    by_cases h : j < n
    · have j0 : (0 : Int) ≤ j := by omega
      have j1 : (j : Int) < n := by omega
      have hvj : j < vs.length := by rw [hn.out]; exact h
      rcases hP with hP | ⟨q, cur, rfl, hq, hcur⟩
      · rw [hP] at hvj; exact absurd hvj (Nat.not_lt_zero _)
      have c0 : wr.cell? ⟨q, j, none⟩ = some (.int .i64 vs[j]) := (hq.cell j).trans (hcur j hvj)
      obtain ⟨p, hp⟩ : ∃ p, vs[j] = p := ⟨_, rfl⟩
      rw [hp] at c0
      have hl2 : (l ++ pas (vs.take j) tg).length ≤ 100000 := by
        have := hl.out
        have := hn.out
        simp [pas]; omega
      have hlt := hW.bk.lt
      obtain ⟨A', c', w2, hrun, hown, hgr⟩ := act_append (w := wr) ⟨true, p, 0, tg⟩ hW.row hlt hl2
      have hnx : l ++ pas (vs.take (j + 1)) tg = (l ++ pas (vs.take j) tg) ++ [⟨true, p, 0, tg⟩] := by rw [pas_next vs tg j hvj, hp, List.append_assoc]
      rw [← hnx] at hrun hown
      obtain ⟨l2, hl4⟩ : ∃ l2, l ++ pas (vs.take (j + 1)) tg = l2 := ⟨_, rfl⟩
      rw [hl4] at hrun hown
      have hge := own_ge hW.row
      have hbel : Below b w w2 := below_grown hO hgr (by omega) (fun k hk => by have := hge k hk; omega)
      have hbk2 : Bk w2 b _ _ := hW.bk.grown hgr (fun e => by have := hge b e.symm; omega)
      have hq2 : Bk w2 q _ _ := hq.grown hgr (hq.far hW.row (by decide))
      have hqb : q ≠ b := hq.ne hW.bk (by decide)
      have d0 := hW.bk.cell 0
      have e0 := hbk2.cell 0
      have e1 := hbk2.free 0
      simp at d0 e0
      clear hq hW hnx hl2 hgr hge hO
      replace hrun := Lib.hid hrun
      replace hown := Lib.hid hown
      replace hbel := Lib.hid hbel
      replace hbk2 := Lib.hid hbk2
      replace hq2 := Lib.hid hq2
      replace hl4 := Lib.hid hl4
      replace hp := Lib.hid hp
      replace hcur := Lib.hid hcur
      replace hqb := Lib.hid hqb
      replace hlt := Lib.hid hlt
      go_wp2_with (at_builtin; refine wpList_append_run rfl (.tmp 18) (.tmp 22) 25 rfl v' _ _ rfl rfl hrun.out ?_)
      have hown1 : (w2.setCell ⟨b, 0, none⟩ (.slice A' l2.length c')).ownsRow (b + 1) 36 4 (.slice A' l2.length c') l2.length (actC l2) :=
        ((Onl.refl (fun k => k = b) w2).put (p := ⟨b, 0, none⟩) (.inl rfl) _).row hown.out (fun k hk => by have := own_ge hown.out k hk; omega)
      refine ⟨⟨j + 1, .slice A' l2.length c', rfl, by omega, .inr ⟨q, cur, rfl, hq2.out.other (p := ⟨b, 0, none⟩) hqb.out _, hcur.out⟩, ?_, hbel.out.setCell (Nat.le_refl _) _⟩, ?_⟩
      · rw [hl4.out]
        exact ⟨hbk2.out.put 0 _, hown1⟩
      · simp [intOf]; omega
    · have e : j = n := by omega
      subst e
      clear h hl3
      replace hW := Lib.hid hW
      replace hO := Lib.hid hO
      go_wp2_with (fail)
      try go_end0
      refine ⟨rfl, v', ?_, hO.out⟩
      have := hW.out
      rwa [← hn.out, List.take_length] at this
end
end Go.Proofs.Ytmfffaocmboelaa
