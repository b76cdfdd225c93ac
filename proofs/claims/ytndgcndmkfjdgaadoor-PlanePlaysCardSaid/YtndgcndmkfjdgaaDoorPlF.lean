import Derived.Test.YtndgcndmkfjdgaaDoorPlE
import Derived.Lib.SliceRun
import Derived.OwnWalk
namespace Go.Proofs.YtndgcndmkfjdgaaDoor
open Go.RowKit Go.Extern.Stop Go.Stop Go.Extern
set_option linter.unusedVariables false
set_option linter.unusedSimpArgs false
/-! rows of marks; the turtle: New, At, Way, Down, Pen, Home, Marks -/
def mwC (x : Mw) : List Value := [.complex .f64 x.1.1 x.1.2, .complex .f64 x.2.1 x.2.2]
def mwsC (xs : List Mw) : List Value := xs.flatMap mwC
theorem mwsC_len (xs : List Mw) : (mwsC xs).length = xs.length * 2 := by
  induction xs with
  | nil => rfl
  | cons x xs ih => simp only [mwsC, List.flatMap_cons, List.length_append, List.length_cons] at ih ⊢; rw [ih]; simp [mwC]; omega
theorem mwsC_push (X : List Mw) (x : Mw) : mwsC X ++ mwC x = mwsC (X ++ [x]) := by simp [mwsC]
theorem mwsC_at (X : List Mw) (i : Nat) (h : i < X.length) (j : Nat) (hj : j < 2) : (mwsC X)[i * 2 + j]? = (mwC X[i])[j]? := by
  induction X generalizing i with
  | nil => exact absurd h (Nat.not_lt_zero _)
  | cons y ys ih =>
    have hl : (mwC y).length = 2 := rfl
    cases i with
    | zero =>
      simp only [mwsC, List.flatMap_cons, List.getElem_cons_zero]
      rw [List.getElem?_append_left (by rw [hl]; omega)]
      congr 1; omega
    | succ i =>
      have := ih i (by simpa using h)
      simp only [mwsC, List.flatMap_cons, List.getElem_cons_succ] at this ⊢
      rw [List.getElem?_append_right (by rw [hl]; omega), hl]
      rw [show (i + 1) * 2 + j - 2 = i * 2 + j by omega]
      exact this
theorem own_mks {W : World} {base n c : Nat} {A : Option Addr} {xs : List Mw} (h : W.ownsRow base 65 2 (.slice A n c) n (mwsC xs)) (hl : ∀ x ∈ xs, Ltw x) : n = xs.length ∧ Mks W A xs := by
  have hn : n = xs.length := by have := h.1; rw [mwsC_len] at this; omega
  subst hn
  refine ⟨rfl, fun j hj => ?_⟩
  rcases h.2 with ⟨e, h0⟩ | ⟨g, cap, cur, e, hb, hg, _, _, _, hx⟩
  · omega
  · injection e with e1 _ _
    subst e1
    have key : ∀ i u, (mwsC xs)[i]? = some u → W.cell? ⟨g, i, none⟩ = some u := fun i u hu => by
      have := h.cells (g := g) rfl i u hu
      rwa [show ((⟨g, 0, none⟩ : Addr).add i) = ⟨g, i, none⟩ by unfold Addr.add; split <;> simp_all] at this
    refine ⟨g, 0, rfl, (Array.getElem?_eq_some_iff.1 hg).1, ?_, ?_, hl _ (List.getElem_mem hj)⟩
    · rw [Nat.zero_add]; exact key _ _ (by have := mwsC_at xs j hj 0 (by decide); rw [Nat.add_zero] at this; rw [this]; rfl)
    · rw [Nat.zero_add]; exact key _ _ (by rw [mwsC_at xs j hj 1 (by decide)]; rfl)
theorem info_mark : (Tryd.prog.info? 65).map (fun i => (i.zero, i.size, i.bytes)) = some (some (.agg #[.complex .f64 0 0, .complex .f64 0 0]), 2, 32) := by kernel_rfl
theorem info_parts {P : Program} {t : TypeId} {v : Value} {s b : Nat} (h : (P.info? t).map (fun i => (i.zero, i.size, i.bytes)) = some (some v, s, b)) : ∃ i, P.info? t = some i ∧ i.zero = some v ∧ i.size = s ∧ i.bytes = b := by
  cases hi : P.info? t with
  | none => rw [hi] at h; cases h
  | some i =>
    rw [hi] at h
    simp only [Option.map_some, Option.some.injEq, Prod.mk.injEq] at h
    exact ⟨i, rfl, h.1, h.2.1, h.2.2⟩
theorem mwC_one (x : Mw) : ∀ u ∈ mwC x, u.oneCell' = true := by
  intro u hu
  simp [mwC] at hu
  rcases hu with rfl | rfl <;> rfl
theorem mwsC_one (xs : List Mw) : ∀ u ∈ mwsC xs, u.oneCell' = true := by
  intro u hu
  obtain ⟨x, _, h⟩ := List.mem_flatMap.1 hu
  exact mwC_one x u h
theorem own_form2 {W : World} {base n size : Nat} {e : TypeId} {v : Value} {xs : List Value} (h : W.ownsRow base e size v n xs) : ∃ A c, v = .slice A n c := own_form h
/-- a mark's words out of its numbers -/
def wz (z : Pt) : Wp := (fi z.1 false, fi z.2 false)
def mkW (m : Mk) : Mw := (wz m.1, wz m.2)
theorem wz_nm {z : Pt} (h : Sm z 16777216) : Nm (wz z) z := nm_cw z (sm_mono h (by decide))
theorem mkW_nk {m : Mk} (h : Sm m.1 16777216 ∧ Sm m.2 16777216) : Nk (mkW m) m := ⟨wz_nm h.1, wz_nm h.2⟩
theorem nk_lt {x : Mw} {z : Mk} (h : Nk x z) : Ltw x := ⟨nm_lt h.1, nm_lt h.2⟩
def Unit4 (v : Pt) : Prop := v = (1, 0) ∨ v = (0, 1) ∨ v = (-1, 0) ∨ v = (0, -1)
theorem Unit4.sm {v : Pt} (h : Unit4 v) : Sm v 1 := by
  rcases h with rfl | rfl | rfl | rfl <;> unfold Sm <;> decide
/-- a turtle in memory: where it is, its way, its pen, its marks -/
structure Tt (W : World) (base t : Nat) (V : Value) (a v : Pt) (dn : Bool) (ms : List Mk) : Prop where
  bk : Bk W t 101 #[cw a, cw v, .bool dn, V]
  row : W.ownsRow base 65 2 V ms.length (mwsC (ms.map mkW))
  sa : Sm a 16777216
  un : Unit4 v
  ok : ∀ i, i < ms.length → mkOk (ms.getD i m0)
  le : ms.length ≤ 4096
/-- only a turtle's block and its row have turned, and what is new -/
structure Trd (t : Nat) (row : Option Nat) (W W' : World) : Prop where
  os : W'.os = W.os
  tape : W'.tape = W.tape
  output : W'.output = W.output
  size : W.heap.size ≤ W'.heap.size
  block : ∀ k, k < W.heap.size → k ≠ t → some k ≠ row → W'.heap[k]? = W.heap[k]?
section
variable {W W' W'' : World} {base t : Nat} {V : Value} {a v : Pt} {dn : Bool} {ms : List Mk} {row : Option Nat}
theorem Trd.below {K : Nat} (h : Trd t row W W') (h1 : K ≤ t) (h2 : ∀ k, row = some k → K ≤ k) (h3 : K ≤ W.heap.size) : Below K W W' :=
  ⟨h.os, h.tape, h.output, h.size, fun k hk => h.block k (by omega) (by omega) (fun e => by have := h2 k e.symm; omega)⟩
theorem Trd.of_below (h : Below W.heap.size W W') : Trd t row W W' := ⟨h.os, h.tape, h.output, h.size, fun k hk _ _ => h.block k hk⟩
theorem Trd.of_only (h : Only t W W') : Trd t row W W' := ⟨h.os, h.tape, h.output, h.size, fun k hk h1 _ => h.block k hk h1⟩
theorem Trd.of_grown (h : W.grownBy W' row) : Trd t row W W' := ⟨h.os, h.tape, h.output, h.size, fun k hk _ h2 => h.block k hk h2⟩
theorem Trd.trans (h : Trd t row W W') (k : Trd t row W' W'') : Trd t row W W'' :=
  ⟨k.os.trans h.os, k.tape.trans h.tape, k.output.trans h.output, Nat.le_trans h.size k.size, fun i hi h1 h2 => (k.block i (Nat.lt_of_lt_of_le hi h.size) h1 h2).trans (h.block i hi h1 h2)⟩
theorem Trd.bk {k : Nat} {ty : TypeId} {vs : Array Value} (h : Trd t row W W') (hk : Bk W k ty vs) (h1 : k ≠ t) (h2 : some k ≠ row) : Bk W' k ty vs := (h.block k hk.lt h1 h2).trans hk
theorem Tt.bel (T : Tt W base t V a v dn ms) (hb : Below W.heap.size W W') : Tt W' base t V a v dn ms := ⟨T.bk.kept hb T.bk.lt, own_below T.row hb (Nat.le_refl _), T.sa, T.un, T.ok, T.le⟩
theorem Tt.draws (T : Tt W base t V a v dn ms) (n : Nat) : Tt (W.drewN n) base t V a v dn ms := ⟨T.bk.draws n, own_draws T.row n, T.sa, T.un, T.ok, T.le⟩
theorem Tt.draw (T : Tt W base t V a v dn ms) : Tt W.drew base t V a v dn ms := T.draws 1
theorem Tt.row_ne (T : Tt W base t V a v dn ms) : V.ownBlock ≠ some t := by
  rcases T.row.2 with ⟨rfl, _⟩ | ⟨g, cap, cur, rfl, _, hg, _⟩
  · simp [Value.ownBlock]
  · simp only [Value.ownBlock]
    intro e
    injection e with e
    subst e
    have := T.bk
    unfold Bk at this
    rw [hg] at this
    injection this with this
    injection this with _ ht
    exact absurd ht (by decide)
theorem Tt.put {vs : Array Value} (T : Tt W base t V a v dn ms) {a' v' : Pt} {dn' : Bool} (hB : Bk W' t 101 #[cw a', cw v', .bool dn', V]) (hO : Only t W W') (h1 : Sm a' 16777216) (h2 : Unit4 v') : Tt W' base t V a' v' dn' ms :=
  ⟨hB, own_only T.row hO T.row_ne, h1, h2, T.ok, T.le⟩
end
theorem cw_zero : cw (0, 0) = .complex .f64 0 0 := by unfold cw; rw [fi_zero]
theorem fi_one : fi 1 false = 4607182418800017408 := by decide +kernel
theorem cw_one : cw (1, 0) = .complex .f64 4607182418800017408 0 := by unfold cw; rw [fi_zero, fi_one]
theorem tnew (w : World) : Calls Tryd.prog 20 #[] w fun e w' => e = .returned (.pointer (some ⟨w.heap.size, 0, none⟩)) ∧ Tt w' w.heap.size w.heap.size (.slice none 0 0) (0, 0) (1, 0) true [] ∧ Below w.heap.size w w' := by
  have key : Tt (w.alloc (.cells #[.complex .f64 0 0, .complex .f64 4607182418800017408 0, .bool true, .slice none 0 0] 101)) w.heap.size w.heap.size (.slice none 0 0) (0, 0) (1, 0) true [] := by
    refine ⟨?_, World.ownsRow_nil _ _ _ _, by unfold Sm; decide, .inl rfl, fun i h => absurd h (Nat.not_lt_zero _), by decide⟩
    rw [cw_zero, cw_one]
    exact Bk.fresh _ _ _
  replace key := Lib.hid key
  go_enter Tryd.func20, Tryd.ntmps20
  go_wp2_with (fail)
  go_returns
  exact ⟨rfl, key.out, (Below.refl _ _).alloc (Nat.le_refl _) _⟩
section
variable {w : World} {base t : Nat} {V : Value} {a v : Pt} {dn : Bool} {ms : List Mk}
theorem tat (T : Tt w base t V a v dn ms) : Calls Tryd.prog 23 #[.pointer (some ⟨t, 0, none⟩)] w fun e w' => e = .returned (cw a) ∧ w' = w := by
  have c0 := T.bk.cell 0
  simp [cw] at c0
  unfold cw
  clear T
  go_enter Tryd.func23, Tryd.ntmps23
  go_wp2_with (fail)
  go_returns
  exact ⟨rfl, rfl⟩
theorem tway (T : Tt w base t V a v dn ms) : Calls Tryd.prog 32 #[.pointer (some ⟨t, 0, none⟩)] w fun e w' => e = .returned (cw v) ∧ w' = w := by
  have c0 := T.bk.cell 1
  simp [cw] at c0
  unfold cw
  clear T
  go_enter Tryd.func32, Tryd.ntmps32
  go_wp2_with (fail)
  go_returns
  exact ⟨rfl, rfl⟩
theorem tdown (T : Tt w base t V a v dn ms) : Calls Tryd.prog 33 #[.pointer (some ⟨t, 0, none⟩)] w fun e w' => e = .returned (.bool dn) ∧ w' = w := by
  have c0 := T.bk.cell 2
  simp at c0
  clear T
  go_enter Tryd.func33, Tryd.ntmps33
  go_wp2_with (fail)
  go_returns
  exact ⟨rfl, rfl⟩
theorem tpen (T : Tt w base t V a v dn ms) (d : Bool) : Calls Tryd.prog 22 #[.pointer (some ⟨t, 0, none⟩), .bool d] w fun e w' => e = .returned (.tuple #[]) ∧ Tt w' base t V a v d ms ∧ Only t w w' := by
  have c2 := T.bk.cell 2
  have f2 := T.bk.free 2
  simp at c2
  have key : Tt (w.setCell ⟨t, 2, none⟩ (.bool d)) base t V a v d ms := T.put (vs := #[]) (T.bk.put 2 _) ((Only.refl t w).put 2 _) T.sa T.un
  replace key := Lib.hid key
  clear T
  go_enter Tryd.func22, Tryd.ntmps22
  go_wp2_with (fail)
  go_returns
  exact ⟨rfl, key.out, (Only.refl t w).put 2 _⟩
theorem thome (T : Tt w base t V a v dn ms) : Calls Tryd.prog 30 #[.pointer (some ⟨t, 0, none⟩)] w fun e w' => e = .returned (.tuple #[]) ∧ Tt w' base t V (0, 0) (1, 0) dn ms ∧ Only t w w' := by
  have c0 := T.bk.cell 0
  have f0 := T.bk.free 0
  have c1 := T.bk.cell 1
  have f1 := T.bk.free 1
  simp [cw] at c0 c1
  have key : Tt ((w.setCell ⟨t, 0, none⟩ (.complex .f64 0 0)).setCell ⟨t, 1, none⟩ (.complex .f64 4607182418800017408 0)) base t V (0, 0) (1, 0) dn ms := by
    refine T.put (vs := #[]) ?_ (((Only.refl t w).put 0 _).put 1 _) (by unfold Sm; decide) (.inl rfl)
    rw [cw_zero, cw_one]
    exact (T.bk.put 0 _).put 1 _
  replace key := Lib.hid key
  clear T
  go_enter Tryd.func30, Tryd.ntmps30
  go_wp2_with (fail)
  go_returns
  exact ⟨rfl, key.out, ((Only.refl t w).put 0 _).put 1 _⟩
end
end Go.Proofs.YtndgcndmkfjdgaaDoor
