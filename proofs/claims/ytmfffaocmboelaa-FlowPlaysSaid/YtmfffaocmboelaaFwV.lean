import Derived.Test.YtmfffaocmboelaaFwU
namespace Go.Proofs.Ytmfffaocmboelaa
open Go.RowKit
set_option linter.unusedVariables false
set_option linter.unusedSimpArgs false
/-! plain law: all laid down farther on goes farther on -/
def sh (d x : Int) : Int := if x = 0 then 0 else x + d
def shT (d : Int) (t : Th) : Th := ⟨t.k, sh d t.at_, sh d t.tgt, t.more.map (sh d)⟩
def shA (d : Int) (a : Ac) : Ac := ⟨a.patch, a.at_ + d, a.op, sh d a.tgt⟩
/-- the places lie between 8 and m -/
structure Pos (L : List Th) (m : Int) : Prop where
  at_ : ∀ x ∈ L, x.k ≠ 5 → 8 ≤ x.at_
  atm : ∀ x ∈ L, 0 ≤ x.at_ ∧ x.at_ ≤ m
  tgt : ∀ x ∈ L, x.k = 3 → 8 ≤ x.tgt
  tgm : ∀ x ∈ L, 0 ≤ x.tgt ∧ x.tgt ≤ m
  more : ∀ x ∈ L, ∀ y ∈ x.more, 8 ≤ y ∧ y ≤ m
theorem Pos.mono {L : List Th} {m m' : Int} (h : Pos L m) (hm : m ≤ m') : Pos L m' :=
  ⟨h.at_, fun x hx => by have := h.atm x hx; omega, h.tgt, fun x hx => by have := h.tgm x hx; omega, fun x hx y hy => by have := h.more x hx y hy; omega⟩
theorem Pos.nil (m : Int) : Pos [] m := ⟨fun x hx => (by cases hx), fun x hx => (by cases hx), fun x hx => (by cases hx), fun x hx => (by cases hx), fun x hx => (by cases hx)⟩
theorem Pos.drop {L : List Th} {m : Int} (h : Pos L m) : Pos L.dropLast m :=
  ⟨fun x hx => h.at_ x (List.dropLast_subset L hx), fun x hx => h.atm x (List.dropLast_subset L hx), fun x hx => h.tgt x (List.dropLast_subset L hx), fun x hx => h.tgm x (List.dropLast_subset L hx), fun x hx => h.more x (List.dropLast_subset L hx)⟩
def PosT (x : Th) (m : Int) : Prop := (x.k ≠ 5 → 8 ≤ x.at_) ∧ (0 ≤ x.at_ ∧ x.at_ ≤ m) ∧ (x.k = 3 → 8 ≤ x.tgt) ∧ (0 ≤ x.tgt ∧ x.tgt ≤ m) ∧ ∀ y ∈ x.more, 8 ≤ y ∧ y ≤ m
theorem Pos.of {L : List Th} {m : Int} (h : ∀ x ∈ L, PosT x m) : Pos L m := ⟨fun x hx => (h x hx).1, fun x hx => (h x hx).2.1, fun x hx => (h x hx).2.2.1, fun x hx => (h x hx).2.2.2.1, fun x hx => (h x hx).2.2.2.2⟩
theorem Pos.to {L : List Th} {m : Int} (h : Pos L m) (x : Th) (hx : x ∈ L) : PosT x m := ⟨h.at_ x hx, h.atm x hx, h.tgt x hx, h.tgm x hx, h.more x hx⟩
theorem Pos.push {L : List Th} {m : Int} (h : Pos L m) (x : Th) (hx : PosT x m) : Pos (L ++ [x]) m := Pos.of fun y hy => by
  rcases List.mem_append.1 hy with hy | hy
  · exact h.to y hy
  · simp at hy; subst hy; exact hx
theorem Pos.set {L : List Th} {m : Int} (h : Pos L m) (j : Nat) (y : Int) (hy : 8 ≤ y ∧ y ≤ m) (hj : j < L.length) : Pos (L.set j ((L.getD j th0).plus y)) m := Pos.of fun x hx => by
  have hg : L.getD j th0 = L[j] := by rw [List.getD_eq_getElem?_getD, List.getElem?_eq_getElem hj]; rfl
  rcases List.mem_or_eq_of_mem_set hx with hx | hx
  · exact h.to x hx
  · have := h.to L[j] (List.getElem_mem hj)
    rw [hx, hg]
    refine ⟨this.1, this.2.1, this.2.2.1, this.2.2.2.1, fun z hz => ?_⟩
    rcases List.mem_append.1 hz with hz | hz
    · exact this.2.2.2.2 z hz
    · simp at hz; subst hz; exact hy
theorem topT_sh (d : Int) (L : List Th) : topT (L.map (shT d)) = shT d (topT L) := by
  unfold topT
  rw [List.getLastD_eq_getLast?, List.getLastD_eq_getLast?, List.getLast?_map]
  cases L.getLast? with
  | none => simp [th0, shT, sh]
  | some x => rfl
theorem getD_sh (d : Int) (L : List Th) (j : Nat) : (L.map (shT d)).getD j th0 = shT d (L.getD j th0) := by
  rw [List.getD_eq_getElem?_getD, List.getD_eq_getElem?_getD, List.getElem?_map]
  cases L[j]? with
  | none => simp [th0, shT, sh]
  | some x => rfl
theorem doFrom_sh (d : Int) (L : List Th) (n : Nat) : doFrom (L.map (shT d)) n = doFrom L n := by
  induction n with
  | zero => rfl
  | succ n ih =>
    have := getD_sh d L n
    unfold th0 at this
    rw [doFrom, doFrom, ih, this]; rfl
theorem nxt_is (y : Int) (h0 : 0 ≤ y) (h : y ≤ 4611686018427387904) : nxt y = y + 8 := by unfold nxt; rw [IntKind.wrap_i64]; omega
theorem sh_pos (d x : Int) (h : 8 ≤ x) : sh d x = x + d := by unfold sh; rw [if_neg (by omega)]
theorem plus_sh (d : Int) (t : Th) (y : Int) (hy : 8 ≤ y) : (shT d t).plus (y + d) = shT d (t.plus y) := by
  simp [Th.plus, shT, sh_pos d y hy]
theorem gq (d : Int) (o : Option Th) (y : Int) (hy : 8 ≤ y) : ((Option.map (shT d) o).getD th0).plus (y + d) = shT d ((o.getD th0).plus y) := by
  cases o with
  | none => rw [← plus_sh d _ _ hy]; simp [th0, shT, sh]
  | some x => exact plus_sh d x y hy
theorem at_sh (d : Int) (t : Th) : (shT d t).at_ = sh d t.at_ := rfl
theorem dropLast_sh (d : Int) (L : List Th) : (L.map (shT d)).dropLast = L.dropLast.map (shT d) := by rw [List.map_dropLast]
def shE (d : Int) (e : Ef) : Ef := ⟨e.how, e.acts.map (shA d), e.bh + d, e.L.map (shT d), shT d e.nx⟩
theorem eff_sh (d : Int) (L : List Th) (r : Nat) (here : Int) (hd0 : 0 ≤ d) (hd : d ≤ 1000000) (h8 : 8 ≤ here) (hh : here ≤ 1000000000) (hw : wantK r = 0 ∨ (topT L).k = wantK r) (hp : ∀ m, Pos L m → (wantK r ≠ 0 → PosT (topT L) m)) (hP : ∃ m, Pos L m) :
    eff (L.map (shT d)) r (here + d) = shE d (eff L r here) := by
  obtain ⟨m, hP⟩ := hP
  have n1 : nxt (here + d) = here + 8 + d := by rw [nxt_is _ (by omega) (by omega)]; omega
  have m1 : nxt here = here + 8 := nxt_is _ (by omega) (by omega)
  have n2 : nxt (here + 8 + d) = here + 16 + d := by rw [nxt_is _ (by omega) (by omega)]; omega
  have m2 : nxt (here + 8) = here + 16 := by rw [nxt_is _ (by omega) (by omega)]; omega
  have n3 : nxt (here + 16 + d) = here + 24 + d := by rw [nxt_is _ (by omega) (by omega)]; omega
  have m3 : nxt (here + 16) = here + 24 := by rw [nxt_is _ (by omega) (by omega)]; omega
  have n4 : nxt (here + 24 + d) = here + 32 + d := by rw [nxt_is _ (by omega) (by omega)]; omega
  have m4 : nxt (here + 24) = here + 32 := by rw [nxt_is _ (by omega) (by omega)]; omega
  have p0 := sh_pos d here h8
  have p1 := sh_pos d (here + 8) (by omega)
  have p2 := sh_pos d (here + 16) (by omega)
  have z : sh d 0 = 0 := rfl
  have zt : shT d th0 = th0 := by simp [th0, shT, sh]
  have tt := hp m hP
  match r with
  | 0 => simp [eff, shE, shA, shT, n1, m1, p0, z, th0]
  | 1 =>
    have hk : (topT L).k = 1 := hw.resolve_left (by decide)
    have ha := sh_pos d _ ((tt (by decide)).1 (by omega))
    simp [eff, shE, shA, shT, n1, m1, p0, p1, z, th0, topT_sh, ha, List.map_dropLast]
  | 2 =>
    have hk : (topT L).k = 1 := hw.resolve_left (by decide)
    have ha := sh_pos d _ ((tt (by decide)).1 (by omega))
    simp [eff, shE, shA, shT, n1, m1, p0, p1, z, th0, topT_sh, ha]
  | 3 => simp [eff, shE, shA, shT, n1, m1, p0, z, th0]
  | 4 => simp [eff, shE, shA, shT, n1, m1, p0, p1, z, th0, topT_sh]
  | 5 => simp [eff, shE, shA, shT, n1, m1, p0, p1, z, th0, topT_sh]
  | 6 => simp [eff, shE, shA, shT, n1, m1, p0, p1, z, th0, topT_sh, List.map_dropLast]
  | 7 =>
    have hk : (topT L).k = 3 := hw.resolve_left (by decide)
    have hb := sh_pos d _ ((tt (by decide)).2.2.1 hk)
    simp [eff, shE, shA, shT, n1, m1, p0, p1, z, th0, topT_sh, hb]
  | 8 => simp [eff, shE, shA, shT, n1, m1, p0, p1, z, th0]
  | 9 => simp [eff, shE, shA, shT, n1, m1, p0, p1, z, th0]
  | 10 => simp [eff, shE, shA, shT, n1, m1, p0, p1, z, th0, topT_sh]
  | 11 => simp [eff, shE, shA, shT, n1, m1, p0, p1, z, th0, topT_sh]
  | 12 =>
    simp only [eff, doFrom_sh, List.length_map, n1, m1, n2, m2]
    cases hdo : doFrom L L.length with
    | none => simp [shE, th0]; rfl
    | some j => simp [shE, shA, z, zt, gq d _ (here + 8) (by omega)]
  | 13 => simp [eff, shE, shA, shT, n1, m1, p0, p1, z, th0]
  | 14 => simp [eff, shE, shA, shT, n1, m1, n2, m2, n3, m3, n4, m4, p0, p1, p2, z, th0]
  | 15 =>
    have hk : (topT L).k = 6 := hw.resolve_left (by decide)
    have ha := sh_pos d _ ((tt (by decide)).1 (by omega))
    simp [eff, shE, shA, n1, m1, p0, p1, z, zt, topT_sh, gq d _ _ h8, at_sh, ha]
  | 16 => simp [eff, shE, shA, shT, n1, m1, p0, p1, z, th0]
  | k + 17 => simp [eff, shE]; rfl
def shS (d : Int) (s : St) : St := ⟨s.f, s.acts.map (shA d), s.L.map (shT d)⟩
theorem posT_top {L : List Th} {r : Nat} (hw : wantK r = 0 ∨ (topT L).k = wantK r) (h0 : wantK r ≠ 0) : L ≠ [] := by
  rintro rfl
  exact h0 (hw.resolve_left h0).symm
theorem eff_bh (L : List Th) (r : Nat) (here : Int) (h8 : 8 ≤ here) (hh : here ≤ 1000000000) : here ≤ (eff L r here).bh ∧ (eff L r here).bh ≤ here + 32 := by
  have m1 : nxt here = here + 8 := nxt_is _ (by omega) (by omega)
  have m2 : nxt (here + 8) = here + 16 := by rw [nxt_is _ (by omega) (by omega)]; omega
  have m3 : nxt (here + 16) = here + 24 := by rw [nxt_is _ (by omega) (by omega)]; omega
  have m4 : nxt (here + 24) = here + 32 := by rw [nxt_is _ (by omega) (by omega)]; omega
  unfold eff
  split <;> first | (simp only [m1, m2, m3, m4]; omega) | (simp only []; omega) | skip
  split <;> first | (simp only [m1, m2, m3, m4]; omega) | (simp only []; omega)
theorem pas_sh (d : Int) (l : List Int) (bh : Int) (hl : ∀ y ∈ l, 8 ≤ y) (hb : 8 ≤ bh) : pas (l.map (sh d)) (bh + d) = (pas l bh).map (shA d) := by
  unfold pas
  rw [List.map_map, List.map_map]
  refine List.map_congr_left fun y hy => ?_
  simp [shA, sh_pos d y (hl y hy), sh_pos d bh hb]
theorem step_sh (d : Int) (L : List Th) (r : Nat) (here m : Int) (hd0 : 0 ≤ d) (hd : d ≤ 1000000) (h8 : 8 ≤ here) (hh : here ≤ 1000000000) (hP : Pos L m) :
    Go.Proofs.Ytmfffaocmboelaa.step (L.map (shT d)) r (here + d) = shS d (Go.Proofs.Ytmfffaocmboelaa.step L r here) := by
  unfold Go.Proofs.Ytmfffaocmboelaa.step
  by_cases h17 : 17 ≤ r
  · rw [if_pos h17, if_pos h17]; rfl
  rw [if_neg h17, if_neg h17, topT_sh]
  by_cases hw : wantK r ≠ 0 ∧ (topT L).k ≠ wantK r
  · rw [if_pos hw, if_pos (show wantK r ≠ 0 ∧ (shT d (topT L)).k ≠ wantK r from hw)]; rfl
  have hw' : wantK r = 0 ∨ (topT L).k = wantK r := by
    by_cases h0 : wantK r = 0
    · exact .inl h0
    · by_cases h1 : (topT L).k = wantK r
      · exact .inr h1
      · exact absurd ⟨h0, h1⟩ hw
  rw [if_neg hw, if_neg (show ¬(wantK r ≠ 0 ∧ (shT d (topT L)).k ≠ wantK r) from hw)]
  rw [eff_sh d L r here hd0 hd h8 hh hw' (fun m hP h0 => hP.to _ (topT_mem L (posT_top hw' h0))) ⟨m, hP⟩]
  have hbh := eff_bh L r here h8 hh
  generalize eff L r here = e at *
  obtain ⟨how, acts, bh, L', nx⟩ := e
  simp only [shE, List.length_map]
  split
  · split
    · rfl
    · simp [shS]
  · rfl
  · simp only [shS, List.map_append, List.map_dropLast]
    congr 2
    refine pas_sh d _ bh (fun y hy => ?_) (by simp only at hbh; omega)
    by_cases hL : L = []
    · subst hL; cases hy
    · exact (hP.more _ (topT_mem L hL) y hy).1
  · simp [shS, List.map_dropLast]
  · rfl
/-- what the acts of a word are worth: their places, where they go -/
structure ActOk (a : Ac) (m : Int) : Prop where
  at_ : 8 ≤ a.at_ ∧ a.at_ ≤ m
  tgt : 0 ≤ a.tgt ∧ a.tgt ≤ m
theorem eff_pos (L : List Th) (r : Nat) (here : Int) (h8 : 8 ≤ here) (hh : here ≤ 1000000000) (hw : wantK r = 0 ∨ (topT L).k = wantK r) (m : Int) (hm : here ≤ m) (hP : Pos L m) :
    (∀ a ∈ (eff L r here).acts, ActOk a (m + 32)) ∧ Pos (eff L r here).L (m + 32) ∧ ((eff L r here).how = 1 → PosT (eff L r here).nx (m + 32)) := by
  have m1 : nxt here = here + 8 := nxt_is _ (by omega) (by omega)
  have m2 : nxt (here + 8) = here + 16 := by rw [nxt_is _ (by omega) (by omega)]; omega
  have m3 : nxt (here + 16) = here + 24 := by rw [nxt_is _ (by omega) (by omega)]; omega
  have m4 : nxt (here + 24) = here + 32 := by rw [nxt_is _ (by omega) (by omega)]; omega
  have hP2 : Pos L (m + 32) := hP.mono (by omega)
  have tt : wantK r ≠ 0 → PosT (topT L) m := fun h0 => hP.to _ (topT_mem L (posT_top hw h0))
  have hk : wantK r ≠ 0 → (topT L).k = wantK r := fun h0 => hw.resolve_left h0
  have hput : ∀ (k : Nat) (a t : Int), PosT ⟨k, a, t, []⟩ (m + 32) → Pos (L.dropLast ++ [⟨k, a, t, []⟩]) (m + 32) := fun k a t h => hP2.drop.push _ h
  have act : ∀ (p : Bool) (x o t : Int), 8 ≤ x → x ≤ m + 32 → 0 ≤ t → t ≤ m + 32 → ActOk ⟨p, x, o, t⟩ (m + 32) := fun p x o t h1 h2 h3 h4 => ⟨⟨h1, h2⟩, ⟨h3, h4⟩⟩
  have posT : ∀ (k : Nat) (a t : Int) (mo : List Int), 0 ≤ a → a ≤ m + 32 → 0 ≤ t → t ≤ m + 32 → ((k ≠ 5 → 8 ≤ a) ∧ (k = 3 → 8 ≤ t)) → (∀ y ∈ mo, 8 ≤ y ∧ y ≤ m + 32) → PosT ⟨k, a, t, mo⟩ (m + 32) := fun k a t mo h1 h2 h3 h4 h5 h6 => ⟨h5.1, ⟨h1, h2⟩, h5.2, ⟨h3, h4⟩, h6⟩
  match r with
  | 0 =>
    exact ⟨(by intro a ha; simp only [eff, m1, m2, m3, m4, List.mem_cons, List.not_mem_nil, or_false] at ha; (first | (rcases ha with rfl | rfl | rfl | rfl) | (rcases ha with rfl | rfl) | (subst ha)); all_goals exact act _ _ _ _ (by omega) (by omega) (by omega) (by omega)), hP2, (fun _ => by simp only [eff, m1, m2, m3, m4]; exact posT 1 here 0 _ (by omega) (by omega) (by omega) (by omega) ⟨fun _ => by omega, fun h => by omega⟩ (fun y hy => (by cases hy)))⟩
  | 1 =>
    have t := tt (by decide)
    have k := hk (by decide)
    simp only [wantK] at k
    obtain ⟨t1, t2, t3, t4, t5⟩ := t
    have t1 := t1 (by omega)
    exact ⟨(by intro a ha; simp only [eff, m1, m2, m3, m4, List.mem_cons, List.not_mem_nil, or_false] at ha; (first | (rcases ha with rfl | rfl | rfl | rfl) | (rcases ha with rfl | rfl) | (subst ha)); all_goals exact act _ _ _ _ (by omega) (by omega) (by omega) (by omega)), hput 1 here 0 (posT 1 here 0 [] (by omega) (by omega) (by omega) (by omega) ⟨fun _ => by omega, fun h => by omega⟩ (fun y hy => (by cases hy))), (fun e => by simp [eff] at e)⟩
  | 2 =>
    have t := tt (by decide)
    have k := hk (by decide)
    simp only [wantK] at k
    obtain ⟨t1, t2, t3, t4, t5⟩ := t
    have t1 := t1 (by omega)
    exact ⟨(by intro a ha; simp only [eff, m1, m2, m3, m4, List.mem_cons, List.not_mem_nil, or_false] at ha; (first | (rcases ha with rfl | rfl | rfl | rfl) | (rcases ha with rfl | rfl) | (subst ha)); all_goals exact act _ _ _ _ (by omega) (by omega) (by omega) (by omega)), hP2, (fun e => by simp [eff] at e)⟩
  | 3 =>
    exact ⟨fun a ha => (by cases ha), hP2, (fun _ => by simp only [eff, m1, m2, m3, m4]; exact posT 2 here 0 _ (by omega) (by omega) (by omega) (by omega) ⟨fun _ => by omega, fun h => by omega⟩ (fun y hy => (by cases hy)))⟩
  | 4 =>
    have t := tt (by decide)
    have k := hk (by decide)
    simp only [wantK] at k
    obtain ⟨t1, t2, t3, t4, t5⟩ := t
    have t1 := t1 (by omega)
    exact ⟨(by intro a ha; simp only [eff, m1, m2, m3, m4, List.mem_cons, List.not_mem_nil, or_false] at ha; (first | (rcases ha with rfl | rfl | rfl | rfl) | (rcases ha with rfl | rfl) | (subst ha)); all_goals exact act _ _ _ _ (by omega) (by omega) (by omega) (by omega)), hP2, (fun e => by simp [eff] at e)⟩
  | 5 =>
    have t := tt (by decide)
    have k := hk (by decide)
    simp only [wantK] at k
    obtain ⟨t1, t2, t3, t4, t5⟩ := t
    have t1 := t1 (by omega)
    exact ⟨(by intro a ha; simp only [eff, m1, m2, m3, m4, List.mem_cons, List.not_mem_nil, or_false] at ha; (first | (rcases ha with rfl | rfl | rfl | rfl) | (rcases ha with rfl | rfl) | (subst ha)); all_goals exact act _ _ _ _ (by omega) (by omega) (by omega) (by omega)), hP2, (fun e => by simp [eff] at e)⟩
  | 6 =>
    have t := tt (by decide)
    have k := hk (by decide)
    simp only [wantK] at k
    obtain ⟨t1, t2, t3, t4, t5⟩ := t
    have t1 := t1 (by omega)
    exact ⟨(by intro a ha; simp only [eff, m1, m2, m3, m4, List.mem_cons, List.not_mem_nil, or_false] at ha; (first | (rcases ha with rfl | rfl | rfl | rfl) | (rcases ha with rfl | rfl) | (subst ha)); all_goals exact act _ _ _ _ (by omega) (by omega) (by omega) (by omega)), hput 3 _ here (posT 3 _ here [] (by omega) (by omega) (by omega) (by omega) ⟨fun _ => by omega, fun h => by omega⟩ (fun y hy => (by cases hy))), (fun e => by simp [eff] at e)⟩
  | 7 =>
    have t := tt (by decide)
    have k := hk (by decide)
    simp only [wantK] at k
    obtain ⟨t1, t2, t3, t4, t5⟩ := t
    have t1 := t1 (by omega)
    have t3 := t3 (by omega)
    exact ⟨(by intro a ha; simp only [eff, m1, m2, m3, m4, List.mem_cons, List.not_mem_nil, or_false] at ha; (first | (rcases ha with rfl | rfl | rfl | rfl) | (rcases ha with rfl | rfl) | (subst ha)); all_goals exact act _ _ _ _ (by omega) (by omega) (by omega) (by omega)), hP2, (fun e => by simp [eff] at e)⟩
  | 8 =>
    exact ⟨(by intro a ha; simp only [eff, m1, m2, m3, m4, List.mem_cons, List.not_mem_nil, or_false] at ha; (first | (rcases ha with rfl | rfl | rfl | rfl) | (rcases ha with rfl | rfl) | (subst ha)); all_goals exact act _ _ _ _ (by omega) (by omega) (by omega) (by omega)), hP2, (fun _ => by simp only [eff, m1, m2, m3, m4]; exact posT 4 (here + 8) 0 _ (by omega) (by omega) (by omega) (by omega) ⟨fun _ => by omega, fun h => by omega⟩ (fun y hy => (by cases hy)))⟩
  | 9 =>
    exact ⟨(by intro a ha; simp only [eff, m1, m2, m3, m4, List.mem_cons, List.not_mem_nil, or_false] at ha; (first | (rcases ha with rfl | rfl | rfl | rfl) | (rcases ha with rfl | rfl) | (subst ha)); all_goals exact act _ _ _ _ (by omega) (by omega) (by omega) (by omega)), hP2, (fun _ => by simp only [eff, m1, m2, m3, m4]; exact posT 4 (here + 8) 0 _ (by omega) (by omega) (by omega) (by omega) ⟨fun _ => by omega, fun h => by omega⟩ (fun y hy => by simp at hy; subst hy; omega))⟩
  | 10 =>
    have t := tt (by decide)
    have k := hk (by decide)
    simp only [wantK] at k
    obtain ⟨t1, t2, t3, t4, t5⟩ := t
    have t1 := t1 (by omega)
    exact ⟨(by intro a ha; simp only [eff, m1, m2, m3, m4, List.mem_cons, List.not_mem_nil, or_false] at ha; (first | (rcases ha with rfl | rfl | rfl | rfl) | (rcases ha with rfl | rfl) | (subst ha)); all_goals exact act _ _ _ _ (by omega) (by omega) (by omega) (by omega)), hP2, (fun e => by simp [eff] at e)⟩
  | 11 =>
    have t := tt (by decide)
    have k := hk (by decide)
    simp only [wantK] at k
    obtain ⟨t1, t2, t3, t4, t5⟩ := t
    have t1 := t1 (by omega)
    exact ⟨(by intro a ha; simp only [eff, m1, m2, m3, m4, List.mem_cons, List.not_mem_nil, or_false] at ha; (first | (rcases ha with rfl | rfl | rfl | rfl) | (rcases ha with rfl | rfl) | (subst ha)); all_goals exact act _ _ _ _ (by omega) (by omega) (by omega) (by omega)), hP2, (fun e => by simp [eff] at e)⟩
  | 12 =>
    simp only [eff, m1, m2]
    cases hd : doFrom L L.length with
    | none => exact ⟨fun a ha => (by cases ha), hP2, fun e => (by cases e)⟩
    | some j =>
      refine ⟨fun a ha => ?_, hP2.set j _ (by omega) (doFrom_lt _ _ _ hd), fun e => (by cases e)⟩
      simp only [List.mem_cons, List.not_mem_nil, or_false] at ha
      rcases ha with rfl | rfl
      · exact act _ _ _ _ (by omega) (by omega) (by omega) (by omega)
      · exact act _ _ _ _ (by omega) (by omega) (by omega) (by omega)
  | 13 => exact ⟨fun a ha => (by cases ha), hP2, fun _ => posT 5 0 0 [] (by omega) (by omega) (by omega) (by omega) ⟨fun h => absurd rfl h, fun h => by omega⟩ (fun y hy => (by cases hy))⟩
  | 14 =>
    exact ⟨(by intro a ha; simp only [eff, m1, m2, m3, m4, List.mem_cons, List.not_mem_nil, or_false] at ha; (first | (rcases ha with rfl | rfl | rfl | rfl) | (rcases ha with rfl | rfl) | (subst ha)); all_goals exact act _ _ _ _ (by omega) (by omega) (by omega) (by omega)), hP2, (fun _ => by simp only [eff, m1, m2, m3, m4]; exact posT 6 (here + 16) 0 _ (by omega) (by omega) (by omega) (by omega) ⟨fun _ => by omega, fun h => by omega⟩ (fun y hy => (by cases hy)))⟩
  | 15 =>
    have t := tt (by decide)
    have k := hk (by decide)
    simp only [wantK] at k
    obtain ⟨t1, t2, t3, t4, t5⟩ := t
    have t1 := t1 (by omega)
    have hL := List.length_pos_iff.2 (posT_top hw (by decide))
    exact ⟨(by intro a ha; simp only [eff, m1, m2, m3, m4, List.mem_cons, List.not_mem_nil, or_false] at ha; (first | (rcases ha with rfl | rfl | rfl | rfl) | (rcases ha with rfl | rfl) | (subst ha)); all_goals exact act _ _ _ _ (by omega) (by omega) (by omega) (by omega)), hP2.set (L.length - 2) here (by omega) (by omega), (fun e => by simp [eff] at e)⟩
  | 16 =>
    exact ⟨(by intro a ha; simp only [eff, m1, m2, m3, m4, List.mem_cons, List.not_mem_nil, or_false] at ha; (first | (rcases ha with rfl | rfl | rfl | rfl) | (rcases ha with rfl | rfl) | (subst ha)); all_goals exact act _ _ _ _ (by omega) (by omega) (by omega) (by omega)), hP2, (fun e => by simp [eff] at e)⟩
  | k + 17 => exact ⟨fun a ha => (by cases ha), hP2, fun e => (by cases e)⟩
theorem step_pos (L : List Th) (r : Nat) (here : Int) (h8 : 8 ≤ here) (hh : here ≤ 1000000000) (m : Int) (hm : here ≤ m) (hP : Pos L m) :
    (∀ a ∈ (Go.Proofs.Ytmfffaocmboelaa.step L r here).acts, ActOk a (m + 32)) ∧ Pos (Go.Proofs.Ytmfffaocmboelaa.step L r here).L (m + 32) := by
  have hP2 : Pos L (m + 32) := hP.mono (by omega)
  have hn : ∀ a ∈ ([] : List Ac), ActOk a (m + 32) := fun a ha => (by cases ha)
  unfold Go.Proofs.Ytmfffaocmboelaa.step
  split
  · exact ⟨hn, hP2⟩
  split
  · exact ⟨hn, hP2⟩
  rename_i hw
  have hw' : wantK r = 0 ∨ (topT L).k = wantK r := by
    by_cases h0 : wantK r = 0
    · exact .inl h0
    · by_cases h1 : (topT L).k = wantK r
      · exact .inr h1
      · exact absurd ⟨h0, h1⟩ hw
  have hbh := eff_bh L r here h8 hh
  obtain ⟨e1, e2, e3⟩ := eff_pos L r here h8 hh hw' m hm hP
  generalize eff L r here = e at *
  obtain ⟨how, acts, bh, L', nx⟩ := e
  simp only at *
  split
  · split
    · exact ⟨hn, hP2⟩
    · exact ⟨e1, hP2.push _ (e3 rfl)⟩
  · exact ⟨e1, e2⟩
  · refine ⟨fun a ha => ?_, hP2.drop⟩
    rcases List.mem_append.1 ha with ha | ha
    · exact e1 a ha
    · simp only [pas, List.mem_map] at ha
      obtain ⟨y, hy, rfl⟩ := ha
      by_cases hL : L = []
      · subst hL; cases hy
      · have := hP.more _ (topT_mem L hL) y hy
        exact ⟨⟨by simp only; omega, by simp only; omega⟩, ⟨by simp only; omega, by simp only; omega⟩⟩
  · exact ⟨e1, e2.drop⟩
  · exact ⟨hn, hP2⟩
theorem step_len (L : List Th) (r : Nat) (here : Int) (i : Nat) (ho : Ord L i) : (Go.Proofs.Ytmfffaocmboelaa.step L r here).acts.length ≤ 4 + i := by
  unfold Go.Proofs.Ytmfffaocmboelaa.step
  have hb := eff_acts L r here
  split
  · simp
  split
  · simp
  split
  · split
    · simp
    · simp only; omega
  · simp only; omega
  · simp only [List.length_append, pas, List.length_map]
    by_cases hL : L = []
    · subst hL; simp [topT, th0]; omega
    · have := ho.more _ (topT_mem L hL); omega
  · simp only; omega
  · simp
end Go.Proofs.Ytmfffaocmboelaa
