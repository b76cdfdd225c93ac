import Derived.Test.YtmfffaocmboelaaFwD
import Derived.ArgAppend
import Derived.Laws.OwnMore
namespace Go.Proofs.Ytmfffaocmboelaa
open Go.RowKit
set_option linter.unusedVariables false
set_option linter.unusedSimpArgs false
/-! what is open, in memory -/
theorem addr_add0 (g j : Nat) : ((⟨g, 0, none⟩ : Addr).add j) = ⟨g, j, none⟩ := by unfold Addr.add; split <;> simp_all
theorem grown_trans {a b c : World} {row : Option Nat} (h : a.grownBy b row) (k : b.grownBy c row) : a.grownBy c row :=
  ⟨k.os.trans h.os, k.tape.trans h.tape, k.output.trans h.output, Nat.le_trans h.size k.size, fun i hi hn => (k.block i (Nat.lt_of_lt_of_le hi h.size) hn).trans (h.block i hi hn)⟩
/-- one element more behind a slice that lies whole: where it lies then -/
theorem app_one {P : Program} {w : World} {t e : TypeId} {i : TypeInfo} {z : Value} {size bytes : Nat} (ht : P.underlying t = some (.slice e)) (hi : P.info? e = some i) (hz : i.zero = some z)
    (hsize : i.size = size) (hby : i.bytes = bytes) (hzs : z.cells.size = size) (hsz : 0 < size) (hbs : bytes ≤ 64) {v : Value} {n : Nat} {xs : List Value} (h : w.ownsRow 0 e size v n xs) (news : List Value) (hl : news.length = size) (h1 : ∀ u ∈ news, u.oneCell' = true) (hn : n ≤ 1000000) :
    ∃ A' c' w2, (Builtin.append_ #[t, t] t #[v, .slice (some ⟨w.heap.size, 0, none⟩) 1 1]).run P (w.alloc (.cells news.toArray e)) = .ok (.slice A' (n + 1) c') w2 ∧ w2.ownsRow 0 e size (.slice A' (n + 1) c') (n + 1) (xs ++ news) ∧ w.grownBy w2 v.ownBlock ∧
      ((Value.slice A' (n + 1) c').ownBlock = v.ownBlock ∨ ∀ k, (Value.slice A' (n + 1) c').ownBlock = some k → w.heap.size ≤ k) := by
  have hnews : ∀ j u, news[j]? = some u → (w.alloc (.cells news.toArray e)).cell? ((⟨w.heap.size, 0, none⟩ : Addr).add j) = some u := fun j u hu => by
    rw [addr_add0, (Bk.fresh w e news.toArray).cell j]
    simpa using hu
  have hg0 := World.grownBy_alloc w (.cells news.toArray e) v.ownBlock
  have hb : (n + 1) * bytes ≤ 140737488355328 := Nat.le_trans (Nat.mul_le_mul (by omega : n + 1 ≤ 1000001) hbs) (by decide)
  have hm : n + 1 ≤ maxLen := by unfold maxLen; omega
  have hr := h.alloc (.cells news.toArray e)
  rcases h.2 with ⟨rfl, rfl⟩ | ⟨g, cap, cur, rfl, hb0, hg, hnc, hcm, hcs, htk⟩
  · have hr0 : (w.alloc (.cells news.toArray e)).ownsRow w.heap.size e size (.slice none 0 0) 0 xs := ⟨h.1, .inl ⟨rfl, rfl⟩⟩
    obtain ⟨v', w2, hrun, hown, hgr, _⟩ := run_append_own (P := P) (w.alloc (.cells news.toArray e)) w.heap.size t t e i z size bytes ht hi hz hsize hby hzs hsz _ 0 xs hr0 ⟨w.heap.size, 0, none⟩ 1 1 news (by omega) hnews h1 hm hb (by simp)
    obtain ⟨A', c', rfl⟩ := own_form hown
    exact ⟨A', c', w2, hrun, own_base hown (Nat.zero_le _), grown_trans hg0 hgr, .inr (own_ge hown)⟩
  · by_cases hroom : n + 1 ≤ cap
    · obtain ⟨w2, hrun, hown, hgr⟩ := run_append_fits (P := P) (w.alloc (.cells news.toArray e)) 0 t t e i size ht hi hsize g n cap xs hr ⟨w.heap.size, 0, none⟩ 1 1 news (by omega) hnews h1 hroom
      exact ⟨_, _, w2, hrun, hown, grown_trans hg0 hgr, .inl rfl⟩
    · obtain ⟨v', w2, hrun, hown, hgr⟩ := run_append_arg_grows (P := P) (w.alloc (.cells news.toArray e)) t t e i z size bytes ht hi hz hsize hby hzs hsz ⟨g, 0, none⟩ n cap xs h.1 (fun j u hu => by
        rw [addr_add0]
        have hj : j < n * size := by
          have := (List.getElem?_eq_some_iff.1 hu).1
          rw [h.1] at this; exact this
        rw [hr.cellAt j hj]; exact hu) ⟨w.heap.size, 0, none⟩ 1 1 news (by omega) hnews (by omega) hm hb
      obtain ⟨A', c', rfl⟩ := own_form hown
      refine ⟨A', c', w2, hrun, own_base hown (Nat.zero_le _), grown_trans hg0 ⟨hgr.os, hgr.tape, hgr.output, hgr.size, fun k hk _ => hgr.block k hk (by simp)⟩, .inr (fun k hk => ?_)⟩
      have := own_ge hown k hk
      simp at this; omega
/-- what is open: its kind, its places, those that leave or end -/
structure Th where
  k : Nat
  at_ : Int
  tgt : Int
  more : List Int
def Th.plus (t : Th) (y : Int) : Th := ⟨t.k, t.at_, t.tgt, t.more ++ [y]⟩
def kn : Nat → ByteArray
  | 1 => ⟨#[73, 70]⟩
  | 2 => ⟨#[66, 69, 71, 73, 78]⟩
  | 3 => ⟨#[87, 72, 73, 76, 69]⟩
  | 4 => ⟨#[68, 79]⟩
  | 5 => ⟨#[67, 65, 83, 69]⟩
  | 6 => ⟨#[79, 70]⟩
  | _ => ⟨#[]⟩
def i64s (l : List Int) : List Value := l.map (Value.int .i64)
def thC1 (x : Th × Value) : List Value := [.string (kn x.1.k), .int .i64 x.1.at_, .int .i64 x.1.tgt, x.2]
def thC (X : List (Th × Value)) : List Value := X.flatMap thC1
theorem thC_len (X : List (Th × Value)) : (thC X).length = X.length * 4 := by
  induction X with
  | nil => rfl
  | cons x X ih => simp only [thC, List.flatMap_cons, List.length_append, List.length_cons] at ih ⊢; rw [ih]; simp [thC1]; omega
theorem thC_push (X : List (Th × Value)) (x : Th × Value) : thC X ++ thC1 x = thC (X ++ [x]) := by simp [thC]
theorem thC_at (X : List (Th × Value)) (i : Nat) (x : Th × Value) (h : X[i]? = some x) (j : Nat) (hj : j < 4) : (thC X)[i * 4 + j]? = (thC1 x)[j]? := by
  induction X generalizing i with
  | nil => simp at h
  | cons y X ih =>
    have hc : thC (y :: X) = thC1 y ++ thC X := by simp [thC]
    have hl : (thC1 y).length = 4 := rfl
    rw [hc]
    match i, h with
    | 0, h =>
      simp at h
      subst h
      rw [List.getElem?_append_left (by omega)]
      simp
    | i + 1, h =>
      rw [List.getElem?_append_right (by omega), hl, show (i + 1) * 4 + j - 4 = i * 4 + j by omega]
      exact ih i (by simpa using h)
theorem thC_set (X : List (Th × Value)) (i : Nat) (x : Th × Value) (h : X[i]? = some x) (t : Th) (m : Value) (ht : t.k = x.1.k ∧ t.at_ = x.1.at_ ∧ t.tgt = x.1.tgt) : (thC X).set (i * 4 + 3) m = thC (X.set i (t, m)) := by
  induction X generalizing i with
  | nil => simp at h
  | cons y X ih =>
    match i, h with
    | 0, h =>
      simp at h
      subst h
      obtain ⟨h1, h2, h3⟩ := ht
      simp [thC, thC1, h1, h2, h3]
    | i + 1, h =>
      have hc : thC (y :: X) = thC1 y ++ thC X := by simp [thC]
      have hl : (thC1 y).length = 4 := rfl
      rw [hc, List.set_append_right _ _ (by omega), hl, show (i + 1) * 4 + 3 - 4 = i * 4 + 3 by omega, ih i (by simpa using h)]
      simp [thC]
structure Rws (W : World) (own : Nat → Prop) (v : Value) (X : List (Th × Value)) : Prop where
  row : W.ownsRow 0 62 4 v X.length (thC X)
  more : ∀ x ∈ X, W.ownsRow 0 3 1 x.2 x.1.more.length (i64s x.1.more)
  dist : X.Pairwise fun x y => ∀ g, x.2.ownBlock = some g → y.2.ownBlock ≠ some g
  own1 : ∀ g, v.ownBlock = some g → own g
  own2 : ∀ x ∈ X, ∀ g, x.2.ownBlock = some g → own g
theorem info_thing : (Try.prog.info? 62).map (fun i => (i.zero, i.size, i.bytes)) = some (some (.agg #[.string ByteArray.empty, .int .i64 0, .int .i64 0, .slice none 0 0]), 4, 56) := by kernel_rfl
theorem row_far {W : World} {b b' n n' size size' : Nat} {e e' : TypeId} {v v' : Value} {xs ys : List Value} (h : W.ownsRow b e size v n xs) (h' : W.ownsRow b' e' size' v' n' ys) (hne : e ≠ e') {g : Nat} (hg : v.ownBlock = some g) : ¬ v'.ownBlock = some g := by
  intro hg'
  rcases own_far h h' hne with h1 | h1
  · rw [h1] at hg; cases hg
  · exact h1 (hg.trans hg'.symm)
section
variable {w w' : World} {own s : Nat → Prop} {v : Value} {X : List (Th × Value)}
theorem Rws.frame (h : Rws w own v X) (hO : Onl s w w') (hs : ∀ k, own k → ¬ s k) : Rws w' own v X :=
  ⟨hO.row h.row (fun g hg => hs g (h.own1 g hg)), fun x hx => hO.row (h.more x hx) (fun g hg => hs g (h.own2 x hx g hg)), h.dist, h.own1, h.own2⟩
theorem Rws.mono {own' : Nat → Prop} (h : Rws w own v X) (ho : ∀ k, own k → own' k) : Rws w own' v X := ⟨h.row, h.more, h.dist, fun g hg => ho g (h.own1 g hg), fun x hx g hg => ho g (h.own2 x hx g hg)⟩
theorem Rws.size (h : Rws w own v X) : Rws w (fun k => own k ∧ k < w.heap.size) v X :=
  ⟨h.row, h.more, h.dist, fun g hg => ⟨h.own1 g hg, (h.row.lt g hg).2⟩, fun x hx g hg => ⟨h.own2 x hx g hg, ((h.more x hx).lt g hg).2⟩⟩
theorem Rws.nil (w : World) (own : Nat → Prop) : Rws w own (.slice none 0 0) [] := ⟨World.ownsRow_nil _ _ _ _, by simp, List.Pairwise.nil, by simp [Value.ownBlock], by simp⟩
theorem Rws.form (h : Rws w own v X) (hX : 0 < X.length) : ∃ g c, v = .slice (some ⟨g, 0, none⟩) X.length c ∧ own g ∧ g < w.heap.size ∧ X.length ≤ c := by
  rcases h.row.2 with ⟨_, h0⟩ | ⟨g, cap, cur, rfl, hb, hg, hnc, _⟩
  · omega
  · exact ⟨g, cap, rfl, h.own1 g rfl, (h.row.lt g rfl).2, hnc⟩
theorem Rws.tp {g c : Nat} (h : Rws w own (.slice (some ⟨g, 0, none⟩) X.length c) X) (i : Nat) (x : Th × Value) (hx : X[i]? = some x) : Tp w g (i * 4) (kn x.1.k) x.1.at_ x.1.tgt x.2 := by
  have hi : i < X.length := (List.getElem?_eq_some_iff.1 hx).1
  have hc : ∀ j, j < 4 → w.cell? ⟨g, i * 4 + j, none⟩ = (thC1 x)[j]? := fun j hj => by
    rw [h.row.cellAt _ (by omega)]
    exact thC_at X i x hx j hj
  exact ⟨hc 0 (by omega), hc 1 (by omega), hc 2 (by omega), hc 3 (by omega), fun j => h.row.frozenAt j⟩
theorem Rws.pop {g c : Nat} {x : Th × Value} (h : Rws w own (.slice (some ⟨g, 0, none⟩) (X ++ [x]).length c) (X ++ [x])) : Rws w own (.slice (some ⟨g, 0, none⟩) X.length c) X := by
  refine ⟨⟨thC_len X, ?_⟩, fun y hy => h.more y (List.mem_append_left _ hy), (List.pairwise_append.1 h.dist).1, fun k hk => h.own1 k hk, fun y hy => h.own2 y (List.mem_append_left _ hy)⟩
  rcases h.row.2 with ⟨h0, _⟩ | ⟨g', cap, cur, e, hb, hg, hnc, hcm, hcs, htk⟩
  · simp at h0
  · injection e with e1 _ e2
    injection e1 with e1
    injection e1 with e1
    subst e1; subst e2
    refine .inr ⟨g, c, cur, rfl, hb, hg, by simp at hnc; omega, hcm, hcs, ?_⟩
    rw [← thC_push] at htk
    have h1 : (cur.toList.take ((X ++ [x]).length * 4)).take (X.length * 4) = (thC X ++ thC1 x).take (X.length * 4) := congrArg (List.take (X.length * 4)) htk
    have h2 : (thC X ++ thC1 x).take (X.length * 4) = thC X := by
      rw [← thC_len X]
      exact List.take_left
    rw [List.take_take, Nat.min_eq_left (by rw [List.length_append]; omega), h2] at h1
    exact h1
theorem Rws.top {g c : Nat} {x : Th × Value} (h : Rws w own (.slice (some ⟨g, 0, none⟩) (X ++ [x]).length c) (X ++ [x])) (k : Nat) (a tg : Int) :
    Rws (set4 w g (X.length * 4) (.string (kn k)) (.int .i64 a) (.int .i64 tg) (.slice none 0 0)) own (.slice (some ⟨g, 0, none⟩) (X ++ [((⟨k, a, tg, []⟩ : Th), Value.slice none 0 0)]).length c) (X ++ [((⟨k, a, tg, []⟩ : Th), Value.slice none 0 0)]) := by
  have hO : Onl (fun j => j = g) w (set4 w g (X.length * 4) (.string (kn k)) (.int .i64 a) (.int .i64 tg) (.slice none 0 0)) := (Onl.refl (fun j => j = g) w).set4 rfl _ _ _ _
  have hr := ((((h.row.stored (X.length * 4) (.string (kn k))).1.stored (X.length * 4 + 1) (.int .i64 a)).1.stored (X.length * 4 + 2) (.int .i64 tg)).1.stored (X.length * 4 + 3) (.slice none 0 0)).1
  have e : ((((thC (X ++ [x])).set (X.length * 4) (.string (kn k))).set (X.length * 4 + 1) (.int .i64 a)).set (X.length * 4 + 2) (.int .i64 tg)).set (X.length * 4 + 3) (.slice none 0 0) = thC (X ++ [((⟨k, a, tg, []⟩ : Th), Value.slice none 0 0)]) := by
    rw [← thC_push, ← thC_push]
    have hl := thC_len X
    rw [List.set_append_right _ _ (by omega), List.set_append_right _ _ (by omega), List.set_append_right _ _ (by omega), List.set_append_right _ _ (by omega), hl]
    simp [thC1]
  rw [e] at hr
  have hmo : ∀ y ∈ X, (set4 w g (X.length * 4) (.string (kn k)) (.int .i64 a) (.int .i64 tg) (.slice none 0 0)).ownsRow 0 3 1 y.2 y.1.more.length (i64s y.1.more) := fun y hy =>
    hO.row (h.more y (List.mem_append_left _ hy)) (fun q hq e => row_far (h.more y (List.mem_append_left _ hy)) h.row (by decide) hq (by rw [e]; rfl))
  refine ⟨by simp only [List.length_append, List.length_cons, List.length_nil] at hr ⊢; exact hr, fun y hy => ?_, ?_, fun q hq => h.own1 q hq, fun y hy q hq => ?_⟩
  · rcases List.mem_append.1 hy with hy | hy
    · exact hmo y hy
    · simp at hy; subst hy; exact World.ownsRow_nil _ _ _ _
  · refine List.pairwise_append.2 ⟨(List.pairwise_append.1 h.dist).1, List.pairwise_singleton _ _, fun y _ z hz q _ => ?_⟩
    simp at hz; subst hz; simp [Value.ownBlock]
  · rcases List.mem_append.1 hy with hy | hy
    · exact h.own2 y (List.mem_append_left _ hy) q hq
    · simp at hy; subst hy; simp [Value.ownBlock] at hq
/-- one thing more is open -/
theorem Rws.push (h : Rws w own v X) (x : Th × Value) (hx : w.ownsRow 0 3 1 x.2 x.1.more.length (i64s x.1.more)) {B : Nat} (hB : B ≤ w.heap.size) (hxB : ∀ g, x.2.ownBlock = some g → B ≤ g ∧ ¬ own g) (hn : X.length ≤ 1000) :
    ∃ A' c' w2, (Builtin.append_ #[55, 55] 55 #[v, .slice (some ⟨w.heap.size, 0, none⟩) 1 1]).run Try.prog (w.alloc (.cells #[.string (kn x.1.k), .int .i64 x.1.at_, .int .i64 x.1.tgt, x.2] 62)) = .ok (.slice A' (X.length + 1) c') w2 ∧
      Rws w2 (fun k => own k ∨ B ≤ k) (.slice A' (X ++ [x]).length c') (X ++ [x]) ∧ Onl (fun k => own k ∨ B ≤ k) w w2 ∧ w.grownBy w2 v.ownBlock := by
  obtain ⟨i9, hi, hz0, hz1, hz2⟩ := info_parts info_thing
  obtain ⟨A', c', w2, hrun, hown, hgr, hnew⟩ := app_one (P := Try.prog) (w := w) Try.underlying55 hi hz0 hz1 hz2 rfl (by decide) (by decide) h.row (thC1 x) rfl (fun u hu => by
    obtain ⟨A, c, e⟩ := own_form hx
    simp [thC1] at hu
    rcases hu with rfl | rfl | rfl | rfl
    · rfl
    · rfl
    · rfl
    · rw [e]; rfl) (by omega)
  have e : X.length + 1 = (X ++ [x]).length := by simp
  have hnew1 : ∀ g, (Value.slice A' (X.length + 1) c').ownBlock = some g → own g ∨ B ≤ g := fun g hg => by
    rcases hnew with h1 | h1
    · exact .inl (h.own1 g (h1 ▸ hg))
    · exact .inr (Nat.le_trans hB (h1 g hg))
  refine ⟨A', c', w2, hrun, ⟨by rw [← e, ← thC_push]; exact hown, fun y hy => ?_, ?_, fun g hg => hnew1 g (by rw [e]; exact hg), fun y hy g hg => ?_⟩, Onl.of_grown hgr (fun k hk => .inl (h.own1 k hk)), hgr⟩
  · rcases List.mem_append.1 hy with hy | hy
    · refine (h.more y hy).kept hgr ?_
      cases hq : y.2.ownBlock with
      | none => exact .inl rfl
      | some q => exact .inr (fun e2 => row_far (h.more y hy) h.row (by decide) hq (e2.symm))
    · simp at hy; subst hy
      refine hx.kept hgr ?_
      cases hq : y.2.ownBlock with
      | none => exact .inl rfl
      | some q => exact .inr (fun e2 => row_far hx h.row (by decide) hq (e2.symm))
  · refine List.pairwise_append.2 ⟨h.dist, List.pairwise_singleton _ _, fun y hy z hz q hq hq2 => ?_⟩
    simp at hz; subst hz
    exact (hxB q hq2).2 (h.own2 y hy q hq)
  · rcases List.mem_append.1 hy with hy | hy
    · exact .inl (h.own2 y hy g hg)
    · simp at hy; subst hy; exact .inr (hxB g hg).1
theorem Pairwise_set {α : Type} {R : α → α → Prop} (hs : ∀ x y, R x y → R y x) {X : List α} (h : X.Pairwise R) (i : Nat) (z : α) (hz : ∀ j y, X[j]? = some y → j ≠ i → R y z) : (X.set i z).Pairwise R := by
  rw [List.pairwise_iff_getElem] at h ⊢
  intro a b ha hb hab
  simp only [List.length_set] at ha hb
  rw [List.getElem_set, List.getElem_set]
  split
  · split
    · omega
    · exact hs _ _ (hz b _ (List.getElem?_eq_getElem hb) (by omega))
  · split
    · exact hz a _ (List.getElem?_eq_getElem ha) (by omega)
    · exact h a b ha hb hab
/-- one place more for thing i -/
theorem Rws.grow {g c : Nat} (h : Rws w own (.slice (some ⟨g, 0, none⟩) X.length c) X) (i : Nat) (x : Th × Value) (hx : X[i]? = some x) (y : Int) (hn : x.1.more.length ≤ 100000) {B : Nat} (hB : B ≤ w.heap.size) :
    ∃ A' c' w2, (Builtin.append_ #[32, 32] 32 #[x.2, .slice (some ⟨w.heap.size, 0, none⟩) 1 1]).run Try.prog (w.alloc (.cells #[.int .i64 y] 3)) = .ok (.slice A' (x.1.more.length + 1) c') w2 ∧
      w.grownBy w2 x.2.ownBlock ∧ Tp w2 g (i * 4) (kn x.1.k) x.1.at_ x.1.tgt x.2 ∧
      Rws (w2.setCell ⟨g, i * 4 + 3, none⟩ (.slice A' (x.1.more.length + 1) c')) (fun k => own k ∨ B ≤ k) (.slice (some ⟨g, 0, none⟩) (X.set i (x.1.plus y, .slice A' (x.1.more.length + 1) c')).length c) (X.set i (x.1.plus y, .slice A' (x.1.more.length + 1) c')) ∧
      Onl own w (w2.setCell ⟨g, i * 4 + 3, none⟩ (.slice A' (x.1.more.length + 1) c')) := by
  obtain ⟨i9, hi, hz0, hz1, hz2⟩ := info_parts info_int
  have hxm : x ∈ X := List.mem_of_getElem? hx
  have hil : i < X.length := (List.getElem?_eq_some_iff.1 hx).1
  obtain ⟨A', c', w2, hrun, hown, hgr, hnew⟩ := app_one (P := Try.prog) (w := w) Try.underlying32 hi hz0 hz1 hz2 rfl (by decide) (by decide) (h.more x hxm) [.int .i64 y] rfl (fun u hu => by simp at hu; subst hu; rfl) (by omega)
  have hO : Onl own w w2 := Onl.of_grown hgr (fun k hk => h.own2 x hxm k hk)
  have hrow : w2.ownsRow 0 62 4 (.slice (some ⟨g, 0, none⟩) X.length c) X.length (thC X) := h.row.kept hgr (.inr (fun e => row_far (h.more x hxm) h.row (by decide) (e.symm) rfl))
  have hog : own g := h.own1 g rfl
  obtain ⟨m', hm'⟩ : ∃ m', Value.slice A' (x.1.more.length + 1) c' = m' := ⟨_, rfl⟩
  have hnew1 : ∀ q, m'.ownBlock = some q → own q ∨ B ≤ q := fun q hq => by
    rw [← hm'] at hq
    rcases hnew with h1 | h1
    · exact .inl (h.own2 x hxm q (h1 ▸ hq))
    · exact .inr (Nat.le_trans hB (h1 q hq))
  have hst := (hrow.stored (i * 4 + 3) m').1
  rw [thC_set X i x hx (x.1.plus y) m' ⟨rfl, rfl, rfl⟩] at hst
  have hX' : (X.set i (x.1.plus y, m')).length = X.length := List.length_set ..
  have hOs : Onl (fun k => k = g) w2 (w2.setCell ⟨g, i * 4 + 3, none⟩ m') := (Onl.refl (fun k => k = g) w2).put (p := ⟨g, i * 4 + 3, none⟩) (.inl rfl) _
  have hmn : w2.ownsRow 0 3 1 m' (x.1.more ++ [y]).length (i64s (x.1.more ++ [y])) := by
    rw [← hm']
    simpa [i64s] using hown
  have hfar : ∀ m n xs, w2.ownsRow 0 3 1 m n xs → (w2.setCell ⟨g, i * 4 + 3, none⟩ m').ownsRow 0 3 1 m n xs := fun m n xs hm => hOs.row hm (fun q hq e => row_far hm hrow (by decide) hq (by rw [e]; rfl))
  have hdd : ∀ j z, X[j]? = some z → j ≠ i → ∀ q, z.2.ownBlock = some q → x.2.ownBlock ≠ some q := fun j z hz hj q hq hq2 => by
    have hp := List.pairwise_iff_getElem.1 h.dist
    obtain ⟨hj1, hj2⟩ := List.getElem?_eq_some_iff.1 hz
    obtain ⟨hi1, hi2⟩ := List.getElem?_eq_some_iff.1 hx
    by_cases hlt : j < i
    · exact hp j i hj1 hi1 hlt q (by rw [hj2]; exact hq) (by rw [hi2]; exact hq2)
    · exact hp i j hi1 hj1 (by omega) q (by rw [hi2]; exact hq2) (by rw [hj2]; exact hq)
  have hz2 : ∀ j z, X[j]? = some z → j ≠ i → w2.ownsRow 0 3 1 z.2 z.1.more.length (i64s z.1.more) := fun j z hz hj => by
    refine (h.more z (List.mem_of_getElem? hz)).kept hgr ?_
    cases hq : z.2.ownBlock with
    | none => exact .inl rfl
    | some q => exact .inr (fun e2 => hdd j z hz hj q hq e2.symm)
  have hmem : ∀ z, z ∈ X.set i (x.1.plus y, m') → z = (x.1.plus y, m') ∨ ∃ j, X[j]? = some z ∧ j ≠ i := fun z hz => by
    obtain ⟨j, hj⟩ := List.getElem?_of_mem hz
    rw [List.getElem?_set] at hj
    split at hj
    · first
        | (injection hj with hj; exact .inl hj.symm)
        | (split at hj; · (injection hj with hj; exact .inl hj.symm); · cases hj)
    · rename_i hne
      exact .inr ⟨j, hj, fun e => hne e.symm⟩
  refine ⟨A', c', w2, hrun, hgr, ?_, ?_, hm' ▸ hO.put (p := ⟨g, i * 4 + 3, none⟩) (.inl hog) m'⟩
  · have ht := h.tp i x hx
    have hb := hgr.block g ((h.row.lt g rfl).2) (fun e => row_far (h.more x hxm) h.row (by decide) e.symm rfl)
    exact ⟨(World.cell?_of_block (a := ⟨g, i * 4, none⟩) hb).trans ht.c0, (World.cell?_of_block (a := ⟨g, i * 4 + 1, none⟩) hb).trans ht.c1, (World.cell?_of_block (a := ⟨g, i * 4 + 2, none⟩) hb).trans ht.c2, (World.cell?_of_block (a := ⟨g, i * 4 + 3, none⟩) hb).trans ht.c3, fun j => (World.frozen?_of_block (a := ⟨g, j, none⟩) hb).trans (ht.fr j)⟩
  · rw [hm']
    refine ⟨by rw [hX']; exact hst, fun z hz => ?_, Pairwise_set (fun a b hab q hq hq2 => hab q hq2 hq) h.dist i _ (fun j z hz hj q hq hq2 => ?_), fun q hq => .inl (h.own1 q hq), fun z hz q hq => ?_⟩
    · rcases hmem z hz with rfl | ⟨j, hj, hne⟩
      · exact hfar _ _ _ hmn
      · exact hfar _ _ _ (hz2 j z hj hne)
    · simp only at hq2
      rw [← hm'] at hq2
      rcases hnew with h1 | h1
      · exact hdd j z hz hj q hq (h1 ▸ hq2)
      · have := h1 q hq2
        have := ((h.more z (List.mem_of_getElem? hz)).lt q hq).2
        omega
    · rcases hmem z hz with rfl | ⟨j, hj, hne⟩
      · exact hnew1 q hq
      · exact .inl (h.own2 z (List.mem_of_getElem? hj) q hq)
end
end Go.Proofs.Ytmfffaocmboelaa
