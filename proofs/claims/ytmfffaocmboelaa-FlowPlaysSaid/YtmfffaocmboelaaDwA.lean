import Derived.Test.YtmfffaocmboelaaFwT
namespace Go.Proofs.Ytmfffaocmboelaa
open Go.RowKit
set_option linter.unusedVariables false
set_option linter.unusedSimpArgs false
/-! the document's things in memory -/
/-- a thing's cells at place o of block g -/
structure Td (w : World) (g o : Nat) (kk : Nat) (at_ tg : Int) (m : Value) : Prop where
  c0 : w.cell? ⟨g, o, none⟩ = some (.int .i64 (kk : Int))
  c1 : w.cell? ⟨g, o + 1, none⟩ = some (.int .i64 at_)
  c2 : w.cell? ⟨g, o + 2, none⟩ = some (.int .i64 tg)
  c3 : w.cell? ⟨g, o + 3, none⟩ = some m
  fr : ∀ i, w.frozen? ⟨g, i, none⟩ = false
section
variable {w w' : World} {g o kk : Nat} {at_ tg : Int} {m : Value}
theorem Td.bel {B : Nat} (h : Td w g o kk at_ tg m) (hb : Below B w w') (hg : g < B) : Td w' g o kk at_ tg m :=
  ⟨(hb.cell (p := ⟨g, o, none⟩) hg).trans h.c0, (hb.cell (p := ⟨g, o + 1, none⟩) hg).trans h.c1, (hb.cell (p := ⟨g, o + 2, none⟩) hg).trans h.c2, (hb.cell (p := ⟨g, o + 3, none⟩) hg).trans h.c3, fun i => (hb.frozen (p := ⟨g, i, none⟩) hg).trans (h.fr i)⟩
end
def tdC1 (x : Th × Value) : List Value := [.int .i64 (x.1.k : Int), .int .i64 x.1.at_, .int .i64 x.1.tgt, x.2]
def tdC (X : List (Th × Value)) : List Value := X.flatMap tdC1
theorem tdC_len (X : List (Th × Value)) : (tdC X).length = X.length * 4 := by
  induction X with
  | nil => rfl
  | cons x X ih => simp only [tdC, List.flatMap_cons, List.length_append, List.length_cons] at ih ⊢; rw [ih]; simp [tdC1]; omega
theorem tdC_push (X : List (Th × Value)) (x : Th × Value) : tdC X ++ tdC1 x = tdC (X ++ [x]) := by simp [tdC]
theorem tdC_at (X : List (Th × Value)) (i : Nat) (x : Th × Value) (h : X[i]? = some x) (j : Nat) (hj : j < 4) : (tdC X)[i * 4 + j]? = (tdC1 x)[j]? := by
  induction X generalizing i with
  | nil => simp at h
  | cons y X ih =>
    have hc : tdC (y :: X) = tdC1 y ++ tdC X := by simp [tdC]
    have hl : (tdC1 y).length = 4 := rfl
    rw [hc]
    match i, h with
    | 0, h =>
      simp at h
      subst h
      rw [List.getElem?_append_left (by omega)]
      simp
    | i + 1, h =>
      rw [List.getElem?_append_right (by omega), hl, show (i + 1) * 4 + j - 4 = i * 4 + j by omega]
      exact ih i (by simpa using h)
theorem tdC_set (X : List (Th × Value)) (i : Nat) (x : Th × Value) (h : X[i]? = some x) (t : Th) (m : Value) (ht : t.k = x.1.k ∧ t.at_ = x.1.at_ ∧ t.tgt = x.1.tgt) : (tdC X).set (i * 4 + 3) m = tdC (X.set i (t, m)) := by
  induction X generalizing i with
  | nil => simp at h
  | cons y X ih =>
    match i, h with
    | 0, h =>
      simp at h
      subst h
      obtain ⟨h1, h2, h3⟩ := ht
      simp [tdC, tdC1, h1, h2, h3]
    | i + 1, h =>
      have hc : tdC (y :: X) = tdC1 y ++ tdC X := by simp [tdC]
      have hl : (tdC1 y).length = 4 := rfl
      rw [hc, List.set_append_right _ _ (by omega), hl, show (i + 1) * 4 + 3 - 4 = i * 4 + 3 by omega, ih i (by simpa using h)]
      simp [tdC]
structure Rwd (W : World) (own : Nat → Prop) (v : Value) (X : List (Th × Value)) : Prop where
  row : W.ownsRow 0 70 4 v X.length (tdC X)
  more : ∀ x ∈ X, W.ownsRow 0 3 1 x.2 x.1.more.length (i64s x.1.more)
  dist : X.Pairwise fun x y => ∀ g, x.2.ownBlock = some g → y.2.ownBlock ≠ some g
  own1 : ∀ g, v.ownBlock = some g → own g
  own2 : ∀ x ∈ X, ∀ g, x.2.ownBlock = some g → own g
theorem info_dth : (Try.prog.info? 70).map (fun i => (i.zero, i.size, i.bytes)) = some (some (.agg #[.int .i64 0, .int .i64 0, .int .i64 0, .slice none 0 0]), 4, 48) := by kernel_rfl
section
variable {w w' : World} {own s : Nat → Prop} {v : Value} {X : List (Th × Value)}
theorem Rwd.frame (h : Rwd w own v X) (hO : Onl s w w') (hs : ∀ k, own k → ¬ s k) : Rwd w' own v X :=
  ⟨hO.row h.row (fun g hg => hs g (h.own1 g hg)), fun x hx => hO.row (h.more x hx) (fun g hg => hs g (h.own2 x hx g hg)), h.dist, h.own1, h.own2⟩
theorem Rwd.mono {own' : Nat → Prop} (h : Rwd w own v X) (ho : ∀ k, own k → own' k) : Rwd w own' v X := ⟨h.row, h.more, h.dist, fun g hg => ho g (h.own1 g hg), fun x hx g hg => ho g (h.own2 x hx g hg)⟩
theorem Rwd.nil (w : World) (own : Nat → Prop) : Rwd w own (.slice none 0 0) [] := ⟨World.ownsRow_nil _ _ _ _, by simp, List.Pairwise.nil, by simp [Value.ownBlock], by simp⟩
theorem Rwd.form (h : Rwd w own v X) (hX : 0 < X.length) : ∃ g c, v = .slice (some ⟨g, 0, none⟩) X.length c ∧ own g ∧ g < w.heap.size ∧ X.length ≤ c := by
  rcases h.row.2 with ⟨_, h0⟩ | ⟨g, cap, cur, rfl, hb, hg, hnc, _⟩
  · omega
  · exact ⟨g, cap, rfl, h.own1 g rfl, (h.row.lt g rfl).2, hnc⟩
theorem Rwd.tp {g c : Nat} (h : Rwd w own (.slice (some ⟨g, 0, none⟩) X.length c) X) (i : Nat) (x : Th × Value) (hx : X[i]? = some x) : Td w g (i * 4) x.1.k x.1.at_ x.1.tgt x.2 := by
  have hi : i < X.length := (List.getElem?_eq_some_iff.1 hx).1
  have hc : ∀ j, j < 4 → w.cell? ⟨g, i * 4 + j, none⟩ = (tdC1 x)[j]? := fun j hj => by
    rw [h.row.cellAt _ (by omega)]
    exact tdC_at X i x hx j hj
  exact ⟨hc 0 (by omega), hc 1 (by omega), hc 2 (by omega), hc 3 (by omega), fun j => h.row.frozenAt j⟩
theorem Rwd.pop {g c : Nat} {x : Th × Value} (h : Rwd w own (.slice (some ⟨g, 0, none⟩) (X ++ [x]).length c) (X ++ [x])) : Rwd w own (.slice (some ⟨g, 0, none⟩) X.length c) X := by
  refine ⟨⟨tdC_len X, ?_⟩, fun y hy => h.more y (List.mem_append_left _ hy), (List.pairwise_append.1 h.dist).1, fun k hk => h.own1 k hk, fun y hy => h.own2 y (List.mem_append_left _ hy)⟩
  rcases h.row.2 with ⟨h0, _⟩ | ⟨g', cap, cur, e, hb, hg, hnc, hcm, hcs, htk⟩
  · simp at h0
  · injection e with e1 _ e2
    injection e1 with e1
    injection e1 with e1
    subst e1; subst e2
    refine .inr ⟨g, c, cur, rfl, hb, hg, by simp at hnc; omega, hcm, hcs, ?_⟩
    rw [← tdC_push] at htk
    have h1 : (cur.toList.take ((X ++ [x]).length * 4)).take (X.length * 4) = (tdC X ++ tdC1 x).take (X.length * 4) := congrArg (List.take (X.length * 4)) htk
    have h2 : (tdC X ++ tdC1 x).take (X.length * 4) = tdC X := by
      rw [← tdC_len X]
      exact List.take_left
    rw [List.take_take, Nat.min_eq_left (by rw [List.length_append]; omega), h2] at h1
    exact h1
theorem Rwd.top {g c : Nat} {x : Th × Value} (h : Rwd w own (.slice (some ⟨g, 0, none⟩) (X ++ [x]).length c) (X ++ [x])) (k : Nat) (a tg : Int) :
    Rwd (set4 w g (X.length * 4) (.int .i64 (k : Int)) (.int .i64 a) (.int .i64 tg) (.slice none 0 0)) own (.slice (some ⟨g, 0, none⟩) (X ++ [((⟨k, a, tg, []⟩ : Th), Value.slice none 0 0)]).length c) (X ++ [((⟨k, a, tg, []⟩ : Th), Value.slice none 0 0)]) := by
  have hO : Onl (fun j => j = g) w (set4 w g (X.length * 4) (.int .i64 (k : Int)) (.int .i64 a) (.int .i64 tg) (.slice none 0 0)) := (Onl.refl (fun j => j = g) w).set4 rfl _ _ _ _
  have hr := ((((h.row.stored (X.length * 4) (.int .i64 (k : Int))).1.stored (X.length * 4 + 1) (.int .i64 a)).1.stored (X.length * 4 + 2) (.int .i64 tg)).1.stored (X.length * 4 + 3) (.slice none 0 0)).1
  have e : ((((tdC (X ++ [x])).set (X.length * 4) (.int .i64 (k : Int))).set (X.length * 4 + 1) (.int .i64 a)).set (X.length * 4 + 2) (.int .i64 tg)).set (X.length * 4 + 3) (.slice none 0 0) = tdC (X ++ [((⟨k, a, tg, []⟩ : Th), Value.slice none 0 0)]) := by
    rw [← tdC_push, ← tdC_push]
    have hl := tdC_len X
    rw [List.set_append_right _ _ (by omega), List.set_append_right _ _ (by omega), List.set_append_right _ _ (by omega), List.set_append_right _ _ (by omega), hl]
    simp [tdC1]
  rw [e] at hr
  have hmo : ∀ y ∈ X, (set4 w g (X.length * 4) (.int .i64 (k : Int)) (.int .i64 a) (.int .i64 tg) (.slice none 0 0)).ownsRow 0 3 1 y.2 y.1.more.length (i64s y.1.more) := fun y hy =>
    hO.row (h.more y (List.mem_append_left _ hy)) (fun q hq e => row_far (h.more y (List.mem_append_left _ hy)) h.row (by decide) hq (by rw [e]; rfl))
  refine ⟨by simp only [List.length_append, List.length_cons, List.length_nil] at hr ⊢; exact hr, fun y hy => ?_, ?_, fun q hq => h.own1 q hq, fun y hy q hq => ?_⟩
  · rcases List.mem_append.1 hy with hy | hy
    · exact hmo y hy
    · simp at hy; subst hy; exact World.ownsRow_nil _ _ _ _
  · refine List.pairwise_append.2 ⟨(List.pairwise_append.1 h.dist).1, List.pairwise_singleton _ _, fun y _ z hz q _ => ?_⟩
    simp at hz; subst hz; simp [Value.ownBlock]
  · rcases List.mem_append.1 hy with hy | hy
    · exact h.own2 y (List.mem_append_left _ hy) q hq
    · simp at hy; subst hy; simp [Value.ownBlock] at hq
/-- one thing more is open -/
theorem Rwd.push (h : Rwd w own v X) (x : Th × Value) (hx : w.ownsRow 0 3 1 x.2 x.1.more.length (i64s x.1.more)) {B : Nat} (hB : B ≤ w.heap.size) (hxB : ∀ g, x.2.ownBlock = some g → B ≤ g ∧ ¬ own g) (hn : X.length ≤ 1000) :
    ∃ A' c' w2, (Builtin.append_ #[43, 43] 43 #[v, .slice (some ⟨w.heap.size, 0, none⟩) 1 1]).run Try.prog (w.alloc (.cells #[.int .i64 (x.1.k : Int), .int .i64 x.1.at_, .int .i64 x.1.tgt, x.2] 70)) = .ok (.slice A' (X.length + 1) c') w2 ∧
      Rwd w2 (fun k => own k ∨ B ≤ k) (.slice A' (X ++ [x]).length c') (X ++ [x]) ∧ Onl (fun k => own k ∨ B ≤ k) w w2 ∧ w.grownBy w2 v.ownBlock := by
  obtain ⟨i9, hi, hz0, hz1, hz2⟩ := info_parts info_dth
  obtain ⟨A', c', w2, hrun, hown, hgr, hnew⟩ := app_one (P := Try.prog) (w := w) Try.underlying43 hi hz0 hz1 hz2 rfl (by decide) (by decide) h.row (tdC1 x) rfl (fun u hu => by
    obtain ⟨A, c, e⟩ := own_form hx
    simp [tdC1] at hu
    rcases hu with rfl | rfl | rfl | rfl
    · rfl
    · rfl
    · rfl
    · rw [e]; rfl) (by omega)
  have e : X.length + 1 = (X ++ [x]).length := by simp
  have hnew1 : ∀ g, (Value.slice A' (X.length + 1) c').ownBlock = some g → own g ∨ B ≤ g := fun g hg => by
    rcases hnew with h1 | h1
    · exact .inl (h.own1 g (h1 ▸ hg))
    · exact .inr (Nat.le_trans hB (h1 g hg))
  refine ⟨A', c', w2, hrun, ⟨by rw [← e, ← tdC_push]; exact hown, fun y hy => ?_, ?_, fun g hg => hnew1 g (by rw [e]; exact hg), fun y hy g hg => ?_⟩, Onl.of_grown hgr (fun k hk => .inl (h.own1 k hk)), hgr⟩
  · rcases List.mem_append.1 hy with hy | hy
    · refine (h.more y hy).kept hgr ?_
      cases hq : y.2.ownBlock with
      | none => exact .inl rfl
      | some q => exact .inr (fun e2 => row_far (h.more y hy) h.row (by decide) hq (e2.symm))
    · simp at hy; subst hy
      refine hx.kept hgr ?_
      cases hq : y.2.ownBlock with
      | none => exact .inl rfl
      | some q => exact .inr (fun e2 => row_far hx h.row (by decide) hq (e2.symm))
  · refine List.pairwise_append.2 ⟨h.dist, List.pairwise_singleton _ _, fun y hy z hz q hq hq2 => ?_⟩
    simp at hz; subst hz
    exact (hxB q hq2).2 (h.own2 y hy q hq)
  · rcases List.mem_append.1 hy with hy | hy
    · exact .inl (h.own2 y hy g hg)
    · simp at hy; subst hy; exact .inr (hxB g hg).1
/-- one place more for thing i -/
theorem Rwd.grow {g c : Nat} (h : Rwd w own (.slice (some ⟨g, 0, none⟩) X.length c) X) (i : Nat) (x : Th × Value) (hx : X[i]? = some x) (y : Int) (hn : x.1.more.length ≤ 100000) {B : Nat} (hB : B ≤ w.heap.size) :
    ∃ A' c' w2, (Builtin.append_ #[32, 32] 32 #[x.2, .slice (some ⟨w.heap.size, 0, none⟩) 1 1]).run Try.prog (w.alloc (.cells #[.int .i64 y] 3)) = .ok (.slice A' (x.1.more.length + 1) c') w2 ∧
      w.grownBy w2 x.2.ownBlock ∧ Td w2 g (i * 4) x.1.k x.1.at_ x.1.tgt x.2 ∧
      Rwd (w2.setCell ⟨g, i * 4 + 3, none⟩ (.slice A' (x.1.more.length + 1) c')) (fun k => own k ∨ B ≤ k) (.slice (some ⟨g, 0, none⟩) (X.set i (x.1.plus y, .slice A' (x.1.more.length + 1) c')).length c) (X.set i (x.1.plus y, .slice A' (x.1.more.length + 1) c')) ∧
      Onl own w (w2.setCell ⟨g, i * 4 + 3, none⟩ (.slice A' (x.1.more.length + 1) c')) := by
  obtain ⟨i9, hi, hz0, hz1, hz2⟩ := info_parts info_int
  have hxm : x ∈ X := List.mem_of_getElem? hx
  have hil : i < X.length := (List.getElem?_eq_some_iff.1 hx).1
  obtain ⟨A', c', w2, hrun, hown, hgr, hnew⟩ := app_one (P := Try.prog) (w := w) Try.underlying32 hi hz0 hz1 hz2 rfl (by decide) (by decide) (h.more x hxm) [.int .i64 y] rfl (fun u hu => by simp at hu; subst hu; rfl) (by omega)
  have hO : Onl own w w2 := Onl.of_grown hgr (fun k hk => h.own2 x hxm k hk)
  have hrow : w2.ownsRow 0 70 4 (.slice (some ⟨g, 0, none⟩) X.length c) X.length (tdC X) := h.row.kept hgr (.inr (fun e => row_far (h.more x hxm) h.row (by decide) (e.symm) rfl))
  have hog : own g := h.own1 g rfl
  obtain ⟨m', hm'⟩ : ∃ m', Value.slice A' (x.1.more.length + 1) c' = m' := ⟨_, rfl⟩
  have hnew1 : ∀ q, m'.ownBlock = some q → own q ∨ B ≤ q := fun q hq => by
    rw [← hm'] at hq
    rcases hnew with h1 | h1
    · exact .inl (h.own2 x hxm q (h1 ▸ hq))
    · exact .inr (Nat.le_trans hB (h1 q hq))
  have hst := (hrow.stored (i * 4 + 3) m').1
  rw [tdC_set X i x hx (x.1.plus y) m' ⟨rfl, rfl, rfl⟩] at hst
  have hX' : (X.set i (x.1.plus y, m')).length = X.length := List.length_set ..
  have hOs : Onl (fun k => k = g) w2 (w2.setCell ⟨g, i * 4 + 3, none⟩ m') := (Onl.refl (fun k => k = g) w2).put (p := ⟨g, i * 4 + 3, none⟩) (.inl rfl) _
  have hmn : w2.ownsRow 0 3 1 m' (x.1.more ++ [y]).length (i64s (x.1.more ++ [y])) := by
    rw [← hm']
    simpa [i64s] using hown
  have hfar : ∀ m n xs, w2.ownsRow 0 3 1 m n xs → (w2.setCell ⟨g, i * 4 + 3, none⟩ m').ownsRow 0 3 1 m n xs := fun m n xs hm => hOs.row hm (fun q hq e => row_far hm hrow (by decide) hq (by rw [e]; rfl))
  have hdd : ∀ j z, X[j]? = some z → j ≠ i → ∀ q, z.2.ownBlock = some q → x.2.ownBlock ≠ some q := fun j z hz hj q hq hq2 => by
    have hp := List.pairwise_iff_getElem.1 h.dist
    obtain ⟨hj1, hj2⟩ := List.getElem?_eq_some_iff.1 hz
    obtain ⟨hi1, hi2⟩ := List.getElem?_eq_some_iff.1 hx
    by_cases hlt : j < i
    · exact hp j i hj1 hi1 hlt q (by rw [hj2]; exact hq) (by rw [hi2]; exact hq2)
    · exact hp i j hi1 hj1 (by omega) q (by rw [hi2]; exact hq2) (by rw [hj2]; exact hq)
  have hz2 : ∀ j z, X[j]? = some z → j ≠ i → w2.ownsRow 0 3 1 z.2 z.1.more.length (i64s z.1.more) := fun j z hz hj => by
    refine (h.more z (List.mem_of_getElem? hz)).kept hgr ?_
    cases hq : z.2.ownBlock with
    | none => exact .inl rfl
    | some q => exact .inr (fun e2 => hdd j z hz hj q hq e2.symm)
  have hmem : ∀ z, z ∈ X.set i (x.1.plus y, m') → z = (x.1.plus y, m') ∨ ∃ j, X[j]? = some z ∧ j ≠ i := fun z hz => by
    obtain ⟨j, hj⟩ := List.getElem?_of_mem hz
    rw [List.getElem?_set] at hj
    split at hj
    · first
        | (injection hj with hj; exact .inl hj.symm)
        | (split at hj; · (injection hj with hj; exact .inl hj.symm); · cases hj)
    · rename_i hne
      exact .inr ⟨j, hj, fun e => hne e.symm⟩
  refine ⟨A', c', w2, hrun, hgr, ?_, ?_, hm' ▸ hO.put (p := ⟨g, i * 4 + 3, none⟩) (.inl hog) m'⟩
  · have ht := h.tp i x hx
    have hb := hgr.block g ((h.row.lt g rfl).2) (fun e => row_far (h.more x hxm) h.row (by decide) e.symm rfl)
    exact ⟨(World.cell?_of_block (a := ⟨g, i * 4, none⟩) hb).trans ht.c0, (World.cell?_of_block (a := ⟨g, i * 4 + 1, none⟩) hb).trans ht.c1, (World.cell?_of_block (a := ⟨g, i * 4 + 2, none⟩) hb).trans ht.c2, (World.cell?_of_block (a := ⟨g, i * 4 + 3, none⟩) hb).trans ht.c3, fun j => (World.frozen?_of_block (a := ⟨g, j, none⟩) hb).trans (ht.fr j)⟩
  · rw [hm']
    refine ⟨by rw [hX']; exact hst, fun z hz => ?_, Pairwise_set (fun a b hab q hq hq2 => hab q hq2 hq) h.dist i _ (fun j z hz hj q hq hq2 => ?_), fun q hq => .inl (h.own1 q hq), fun z hz q hq => ?_⟩
    · rcases hmem z hz with rfl | ⟨j, hj, hne⟩
      · exact hfar _ _ _ hmn
      · exact hfar _ _ _ (hz2 j z hj hne)
    · simp only at hq2
      rw [← hm'] at hq2
      rcases hnew with h1 | h1
      · exact hdd j z hz hj q hq (h1 ▸ hq2)
      · have := h1 q hq2
        have := ((h.more z (List.mem_of_getElem? hz)).lt q hq).2
        omega
    · rcases hmem z hz with rfl | ⟨j, hj, hne⟩
      · exact hnew1 q hq
      · exact .inl (h.own2 z (List.mem_of_getElem? hj) q hq)
theorem Rwd.least (h : Rwd w own v X) : Rwd w (ownOf v X) v X := ⟨h.row, h.more, h.dist, fun g hg => .inl hg, fun x hx g hg => .inr ⟨x, hx, hg⟩⟩
theorem Rwd.of_least (h : Rwd w own v X) {k : Nat} (hk : ownOf v X k) : own k := hk.elim (h.own1 k) (fun ⟨x, hx, hg⟩ => h.own2 x hx k hg)
theorem Rwd.least_lt (h : Rwd w own v X) {k : Nat} (hk : ownOf v X k) : k < w.heap.size :=
  hk.elim (fun hg => (h.row.lt k hg).2) (fun ⟨x, hx, hg⟩ => ((h.more x hx).lt k hg).2)
end
end Go.Proofs.Ytmfffaocmboelaa
