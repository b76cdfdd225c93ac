import Derived.Test.YtmfffaocmboelaaFwV
namespace Go.Proofs.Ytmfffaocmboelaa
open Go.RowKit
set_option linter.unusedVariables false
set_option linter.unusedSimpArgs false
/-! plain law: what was laid down to go nowhere is patched just once -/
/-- the places of a thing that wait for a patch -/
def pend (t : Th) : List Int := (if t.k = 1 ∨ t.k = 6 then [t.at_] else []) ++ (if t.k = 3 then [t.tgt] else []) ++ t.more
def pendL (L : List Th) : List Int := L.flatMap pend
theorem pendL_push (Y : List Th) (x : Th) : pendL (Y ++ [x]) = pendL Y ++ pend x := by simp [pendL]
def waitA (a : Ac) : List Int := if a.patch = false ∧ (a.op = 5 ∨ a.op = 4 ∨ a.op = 7) ∧ a.tgt = 0 then [a.at_] else []
def doneA (a : Ac) : List Int := if a.patch = true then [a.at_] else []
def waitL (l : List Ac) : List Int := l.flatMap waitA
def doneL (l : List Ac) : List Int := l.flatMap doneA
def layN (l : List Ac) : Nat := (l.filter fun a => !a.patch).length
/-- the acts of a word that begins at h, n acts in all -/
def AOk : Int → Int → List Ac → Prop
  | h, n, [] => True
  | h, n, a :: l => if a.patch = true then a.op = 0 ∧ 8 ≤ a.tgt ∧ a.tgt ≤ h + 8 * n ∧ AOk h n l else a.at_ = h ∧ AOk (h + 8) n l
/-- only loops with a count and cases have places of their own; an OF stands on a CASE -/
structure Und (L : List Th) : Prop where
  more : ∀ x ∈ L, x.k ≠ 4 → x.k ≠ 5 → x.more = []
  under : ∀ (i : Nat) (x y : Th), L[i]? = some x → L[i + 1]? = some y → y.k = 6 → x.k = 5
theorem Und.nil : Und [] := ⟨fun x hx => (by cases hx), fun i x y h => (by simp at h)⟩
theorem Und.drop {L : List Th} (h : Und L) : Und L.dropLast := by
  refine ⟨fun x hx => h.more x (List.dropLast_subset L hx), fun i x y h1 h2 hk => ?_⟩
  rw [List.getElem?_dropLast] at h1 h2
  split at h1
  · split at h2
    · exact h.under i x y h1 h2 hk
    · cases h2
  · cases h1
theorem Und.push {L : List Th} (h : Und L) (t : Th) (hm : t.k ≠ 4 → t.k ≠ 5 → t.more = []) (hk : t.k = 6 → (topT L).k = 5) : Und (L ++ [t]) := by
  refine ⟨fun x hx => ?_, fun i x y h1 h2 hy => ?_⟩
  · rcases List.mem_append.1 hx with hx | hx
    · exact h.more x hx
    · simp at hx; subst hx; exact hm
  · by_cases hi : i + 1 < L.length
    · rw [List.getElem?_append_left (by omega)] at h1
      rw [List.getElem?_append_left hi] at h2
      exact h.under i x y h1 h2 hy
    · by_cases he : i + 1 = L.length
      · rw [List.getElem?_append_left (by omega)] at h1
        rw [List.getElem?_append_right (by omega), he, Nat.sub_self] at h2
        simp at h2
        subst h2
        have hL : L ≠ [] := by rintro rfl; simp at he
        have ht : topT L = x := by
          unfold topT
          rw [List.getLastD_eq_getLast?, List.getLast?_eq_getElem?, show L.length - 1 = i by omega, h1]; rfl
        rw [← ht]; exact hk hy
      · rw [List.getElem?_append_right (by omega)] at h2
        rw [List.getElem?_eq_none (by simp; omega)] at h2
        cases h2
theorem Und.set {L : List Th} (h : Und L) (j : Nat) (y : Int) (hj : j < L.length) (hk : (L.getD j th0).k = 4 ∨ (L.getD j th0).k = 5) : Und (L.set j ((L.getD j th0).plus y)) := by
  have hg : L.getD j th0 = L[j] := by rw [List.getD_eq_getElem?_getD, List.getElem?_eq_getElem hj]; rfl
  have hs : ∀ (i : Nat) (x : Th), (L.set j ((L.getD j th0).plus y))[i]? = some x → ∃ x', L[i]? = some x' ∧ x'.k = x.k := fun i x hx => by
    rw [List.getElem?_set] at hx
    split at hx
    · rename_i e
      subst e
      injection hx with hx
      exact ⟨L[j], List.getElem?_eq_getElem hj, by rw [← hx, hg]; rfl⟩
    · exact ⟨x, hx, rfl⟩
  refine ⟨fun x hx h4 h5 => ?_, fun i x y' h1 h2 hy => ?_⟩
  · rcases List.mem_or_eq_of_mem_set hx with hx | hx
    · exact h.more x hx h4 h5
    · rw [hx] at h4 h5
      rcases hk with hk | hk
      · exact absurd hk h4
      · exact absurd hk h5
  · obtain ⟨x1, g1, k1⟩ := hs i x h1
    obtain ⟨y1, g2, k2⟩ := hs (i + 1) y' h2
    rw [← k1]
    exact h.under i x1 y1 g1 g2 (by rw [k2]; exact hy)
theorem count_set (L : List Th) (j : Nat) (z y : Int) (hj : j < L.length) : (pendL (L.set j ((L.getD j th0).plus z))).count y = (pendL L).count y + [z].count y := by
  induction L generalizing j with
  | nil => simp at hj
  | cons a L ih =>
    match j with
    | 0 =>
      have e : pend (a.plus z) = pend a ++ [z] := (List.append_assoc _ _ _).symm
      simp only [List.set_cons_zero, List.getD_cons_zero, pendL, List.flatMap_cons, e, List.count_append]
      omega
    | j + 1 =>
      have := ih j (by simpa using hj)
      simp only [List.set_cons_succ, List.getD_cons_succ, pendL, List.flatMap_cons, List.count_append] at this ⊢
      omega
theorem top_split {L : List Th} (hL : L ≠ []) : ∃ Y, L = Y ++ [topT L] := by
  refine ⟨L.dropLast, ?_⟩
  have : topT L = L.getLast hL := by
    unfold topT
    rw [List.getLastD_eq_getLast?, List.getLast?_eq_some_getLast hL]; rfl
  rw [this, List.dropLast_concat_getLast hL]
theorem doFrom_k (L : List Th) (n j : Nat) (h : doFrom L n = some j) : (L.getD j th0).k = 4 := by
  induction n with
  | zero => cases h
  | succ n ih =>
    rw [doFrom] at h
    split at h
    · rename_i hk
      injection h with h
      subst h
      exact hk
    · exact ih h
/-- what a word keeps -/
structure Kp (L : List Th) (here : Int) (acts : List Ac) (L' : List Th) : Prop where
  ok : AOk here acts.length acts
  cnt : ∀ y, (pendL L).count y + (waitL acts).count y = (doneL acts).count y + (pendL L').count y
  one : waitL acts = [] ∨ ∃ y, waitL acts = [y] ∧ here ≤ y ∧ y < here + 8 * layN acts
  und : Und L'
theorem AOk_pas (l : List Int) (h n t : Int) (ht : 8 ≤ t ∧ t ≤ h + 8 * n) : AOk h n (pas l t) := by
  induction l with
  | nil => trivial
  | cons a l ih => exact ⟨rfl, ht.1, ht.2, ih⟩
theorem pas_wait (l : List Int) (t : Int) : waitL (pas l t) = [] := by
  induction l with
  | nil => rfl
  | cons a l ih => simp only [pas, List.map_cons, waitL, List.flatMap_cons] at ih ⊢; rw [ih]; rfl
theorem pas_done (l : List Int) (t : Int) : doneL (pas l t) = l := by
  induction l with
  | nil => rfl
  | cons a l ih => simp only [pas, List.map_cons, doneL, List.flatMap_cons] at ih ⊢; rw [ih]; rfl
theorem pas_lay (l : List Int) (t : Int) : layN (pas l t) = 0 := by
  induction l with
  | nil => rfl
  | cons a l ih => simp [pas, layN]
theorem keep_none (L : List Th) (here : Int) (h : Und L) : Kp L here [] L := ⟨trivial, fun y => by simp [waitL, doneL], .inl rfl, h⟩
theorem aok1 (h n : Int) (a : Ac) (hp : a.patch = false) (ha : a.at_ = h) : AOk h n [a] := by
  unfold AOk
  rw [if_neg (by rw [hp]; decide)]
  exact ⟨ha, trivial⟩
theorem kp_push {L : List Th} {here : Int} {acts : List Ac} {nx : Th} (h : Und L) (hok : AOk here acts.length acts) (hc : ∀ y, (waitL acts).count y = (doneL acts).count y + (pend nx).count y) (h1 : waitL acts = [] ∨ ∃ y, waitL acts = [y] ∧ here ≤ y ∧ y < here + 8 * layN acts) (hm : nx.k ≠ 4 → nx.k ≠ 5 → nx.more = []) (hk : nx.k = 6 → (topT L).k = 5) : Kp L here acts (L ++ [nx]) :=
  ⟨hok, fun y => by rw [pendL_push, List.count_append, hc y]; omega, h1, h.push nx hm hk⟩
theorem aok_lay (h n : Int) (a : Ac) (l : List Ac) (hp : a.patch = false) (ha : a.at_ = h) (hl : AOk (h + 8) n l) : AOk h n (a :: l) := by
  unfold AOk
  rw [if_neg (by rw [hp]; decide)]
  exact ⟨ha, hl⟩
theorem aok_pat (h n : Int) (a : Ac) (l : List Ac) (hp : a.patch = true) (ho : a.op = 0) (h1 : 8 ≤ a.tgt) (h2 : a.tgt ≤ h + 8 * n) (hl : AOk h n l) : AOk h n (a :: l) := by
  unfold AOk
  rw [if_pos hp]
  exact ⟨ho, h1, h2, hl⟩
theorem keep_step (L : List Th) (r : Nat) (here m : Int) (h8 : 8 ≤ here) (hh : here ≤ 1000000000) (hP : Pos L m) (hU : Und L) (hlow : ∀ x, L.head? = some x → x.k ≠ 6) :
    Kp L here (Go.Proofs.Ytmfffaocmboelaa.step L r here).acts (Go.Proofs.Ytmfffaocmboelaa.step L r here).L ∧ ((Go.Proofs.Ytmfffaocmboelaa.step L r here).f ≠ 0 → (Go.Proofs.Ytmfffaocmboelaa.step L r here).acts = []) := by
  have m1 : nxt here = here + 8 := nxt_is _ (by omega) (by omega)
  have m2 : nxt (here + 8) = here + 16 := by rw [nxt_is _ (by omega) (by omega)]; omega
  have m3 : nxt (here + 16) = here + 24 := by rw [nxt_is _ (by omega) (by omega)]; omega
  have m4 : nxt (here + 24) = here + 32 := by rw [nxt_is _ (by omega) (by omega)]; omega
  unfold Go.Proofs.Ytmfffaocmboelaa.step
  split
  · exact ⟨keep_none L here hU, fun _ => rfl⟩
  rename_i h17
  split
  · exact ⟨keep_none L here hU, fun _ => rfl⟩
  rename_i hwn
  have hw : wantK r = 0 ∨ (topT L).k = wantK r := by
    by_cases h0 : wantK r = 0
    · exact .inl h0
    · by_cases h1 : (topT L).k = wantK r
      · exact .inr h1
      · exact absurd ⟨h0, h1⟩ hwn
  clear hwn
  match r with
  | 0 =>
    simp only [eff, m1, m2, m3, m4]
    split
    · exact ⟨keep_none L here hU, fun _ => rfl⟩
    · exact ⟨kp_push hU (aok1 _ _ _ rfl rfl) (fun y => by simp [waitL, waitA, doneL, doneA, pend, layN]) (by right; exact ⟨here, by simp [waitL, waitA], by omega, by first | (simp [layN]; done) | (simp [layN]; omega)⟩) (by simp) (fun e => by simp at e), fun h => absurd rfl h⟩
  | 1 =>
    have hk : (topT L).k = wantK 1 := hw.resolve_left (by decide)
    simp only [wantK] at hk
    have hL := posT_top hw (by decide)
    have ht8 := (hP.to _ (topT_mem L hL)).1 (by omega)
    have ht3 := (hP.to _ (topT_mem L hL)).2.2.1
    have hmo := hU.more _ (topT_mem L hL)
    obtain ⟨Y, hY⟩ := top_split hL
    have hdl : L.dropLast = Y := by rw [hY]; simp
    have hUd := hU.drop
    rw [hdl] at hUd
    have hLc : ∀ y, (pendL L).count y = (pendL Y).count y + (pend (topT L)).count y := fun y => by conv => lhs; rw [hY, pendL_push, List.count_append]
    simp only [eff, m1, hdl]
    have e : L.dropLast = Y := hdl
    refine ⟨⟨aok_lay _ _ _ _ rfl rfl (aok_pat _ _ _ _ rfl rfl (by simp only; omega) (by simp only [List.length_cons, List.length_nil]; omega) trivial), fun y => ?_, by right; exact ⟨here, by simp [waitL, waitA], by omega, by first | (simp [layN]; done) | (simp [layN]; omega)⟩, hUd.push _ (fun _ _ => rfl) (fun e => by simp at e)⟩, fun h => absurd rfl h⟩
    rw [hLc, pendL_push, List.count_append]
    simp [waitL, waitA, doneL, doneA, pend, hk, hmo (by omega) (by omega)]
    omega
  | 2 =>
    have hk : (topT L).k = wantK 2 := hw.resolve_left (by decide)
    simp only [wantK] at hk
    have hL := posT_top hw (by decide)
    have ht8 := (hP.to _ (topT_mem L hL)).1 (by omega)
    have ht3 := (hP.to _ (topT_mem L hL)).2.2.1
    have hmo := hU.more _ (topT_mem L hL)
    obtain ⟨Y, hY⟩ := top_split hL
    have hdl : L.dropLast = Y := by rw [hY]; simp
    have hUd := hU.drop
    rw [hdl] at hUd
    have hLc : ∀ y, (pendL L).count y = (pendL Y).count y + (pend (topT L)).count y := fun y => by conv => lhs; rw [hY, pendL_push, List.count_append]
    simp only [eff, m1, hdl]
    refine ⟨⟨aok_pat _ _ _ _ rfl rfl (by simp only; omega) (by simp only [List.length_cons, List.length_nil]; omega) trivial, fun y => ?_, by left; simp [waitL, waitA], hUd⟩, fun h => absurd rfl h⟩
    rw [hLc]
    simp [waitL, waitA, doneL, doneA, pend, hk, hmo (by omega) (by omega)]
    omega
  | 3 =>
    simp only [eff, m1, m2, m3, m4]
    split
    · exact ⟨keep_none L here hU, fun _ => rfl⟩
    · exact ⟨kp_push hU (trivial) (fun y => by simp [waitL, waitA, doneL, doneA, pend, layN]) (by left; rfl) (by simp) (fun e => by simp at e), fun h => absurd rfl h⟩
  | 4 =>
    have hk : (topT L).k = wantK 4 := hw.resolve_left (by decide)
    simp only [wantK] at hk
    have hL := posT_top hw (by decide)
    have ht8 := (hP.to _ (topT_mem L hL)).1 (by omega)
    have ht3 := (hP.to _ (topT_mem L hL)).2.2.1
    have hmo := hU.more _ (topT_mem L hL)
    obtain ⟨Y, hY⟩ := top_split hL
    have hdl : L.dropLast = Y := by rw [hY]; simp
    have hUd := hU.drop
    rw [hdl] at hUd
    have hLc : ∀ y, (pendL L).count y = (pendL Y).count y + (pend (topT L)).count y := fun y => by conv => lhs; rw [hY, pendL_push, List.count_append]
    simp only [eff, m1, hdl]
    have hne : ¬ (topT L).at_ = 0 := by omega
    refine ⟨⟨aok1 _ _ _ rfl rfl, fun y => ?_, by left; simp [waitL, waitA, hne], hUd⟩, fun h => absurd rfl h⟩
    rw [hLc]
    simp [waitL, waitA, doneL, doneA, pend, hk, hmo (by omega) (by omega), hne]
  | 5 =>
    have hk : (topT L).k = wantK 5 := hw.resolve_left (by decide)
    simp only [wantK] at hk
    have hL := posT_top hw (by decide)
    have ht8 := (hP.to _ (topT_mem L hL)).1 (by omega)
    have ht3 := (hP.to _ (topT_mem L hL)).2.2.1
    have hmo := hU.more _ (topT_mem L hL)
    obtain ⟨Y, hY⟩ := top_split hL
    have hdl : L.dropLast = Y := by rw [hY]; simp
    have hUd := hU.drop
    rw [hdl] at hUd
    have hLc : ∀ y, (pendL L).count y = (pendL Y).count y + (pend (topT L)).count y := fun y => by conv => lhs; rw [hY, pendL_push, List.count_append]
    simp only [eff, m1, hdl]
    have hne : ¬ (topT L).at_ = 0 := by omega
    refine ⟨⟨aok1 _ _ _ rfl rfl, fun y => ?_, by left; simp [waitL, waitA, hne], hUd⟩, fun h => absurd rfl h⟩
    rw [hLc]
    simp [waitL, waitA, doneL, doneA, pend, hk, hmo (by omega) (by omega), hne]
  | 6 =>
    have hk : (topT L).k = wantK 6 := hw.resolve_left (by decide)
    simp only [wantK] at hk
    have hL := posT_top hw (by decide)
    have ht8 := (hP.to _ (topT_mem L hL)).1 (by omega)
    have ht3 := (hP.to _ (topT_mem L hL)).2.2.1
    have hmo := hU.more _ (topT_mem L hL)
    obtain ⟨Y, hY⟩ := top_split hL
    have hdl : L.dropLast = Y := by rw [hY]; simp
    have hUd := hU.drop
    rw [hdl] at hUd
    have hLc : ∀ y, (pendL L).count y = (pendL Y).count y + (pend (topT L)).count y := fun y => by conv => lhs; rw [hY, pendL_push, List.count_append]
    simp only [eff, m1, hdl]
    refine ⟨⟨aok1 _ _ _ rfl rfl, fun y => ?_, by right; exact ⟨here, by simp [waitL, waitA], by omega, by first | (simp [layN]; done) | (simp [layN]; omega)⟩, hUd.push _ (fun _ _ => rfl) (fun e => by simp at e)⟩, fun h => absurd rfl h⟩
    rw [hLc, pendL_push, List.count_append]
    simp [waitL, waitA, doneL, doneA, pend, hk, hmo (by omega) (by omega)]
  | 7 =>
    have hk : (topT L).k = wantK 7 := hw.resolve_left (by decide)
    simp only [wantK] at hk
    have hL := posT_top hw (by decide)
    have ht8 := (hP.to _ (topT_mem L hL)).1 (by omega)
    have ht3 := (hP.to _ (topT_mem L hL)).2.2.1
    have hmo := hU.more _ (topT_mem L hL)
    obtain ⟨Y, hY⟩ := top_split hL
    have hdl : L.dropLast = Y := by rw [hY]; simp
    have hUd := hU.drop
    rw [hdl] at hUd
    have hLc : ∀ y, (pendL L).count y = (pendL Y).count y + (pend (topT L)).count y := fun y => by conv => lhs; rw [hY, pendL_push, List.count_append]
    simp only [eff, m1, hdl]
    have hne : ¬ (topT L).at_ = 0 := by omega
    have ht3 := ht3 hk
    refine ⟨⟨aok_lay _ _ _ _ rfl rfl (aok_pat _ _ _ _ rfl rfl (by simp only; omega) (by simp only [List.length_cons, List.length_nil]; omega) trivial), fun y => ?_, by left; simp [waitL, waitA, hne], hUd⟩, fun h => absurd rfl h⟩
    rw [hLc]
    simp [waitL, waitA, doneL, doneA, pend, hk, hmo (by omega) (by omega), hne]
    omega
  | 8 =>
    simp only [eff, m1, m2, m3, m4]
    split
    · exact ⟨keep_none L here hU, fun _ => rfl⟩
    · exact ⟨kp_push hU (aok1 _ _ _ rfl rfl) (fun y => by simp [waitL, waitA, doneL, doneA, pend, layN]) (by left; simp [waitL, waitA]) (by simp) (fun e => by simp at e), fun h => absurd rfl h⟩
  | 9 =>
    simp only [eff, m1, m2, m3, m4]
    split
    · exact ⟨keep_none L here hU, fun _ => rfl⟩
    · exact ⟨kp_push hU (aok1 _ _ _ rfl rfl) (fun y => by simp [waitL, waitA, doneL, doneA, pend, layN]) (by right; exact ⟨here, by simp [waitL, waitA], by omega, by first | (simp [layN]; done) | (simp [layN]; omega)⟩) (by simp) (fun e => by simp at e), fun h => absurd rfl h⟩
  | 10 =>
    have hk : (topT L).k = wantK 10 := hw.resolve_left (by decide)
    simp only [wantK] at hk
    have hL := posT_top hw (by decide)
    have ht8 := (hP.to _ (topT_mem L hL)).1 (by omega)
    have ht3 := (hP.to _ (topT_mem L hL)).2.2.1
    have hmo := hU.more _ (topT_mem L hL)
    obtain ⟨Y, hY⟩ := top_split hL
    have hdl : L.dropLast = Y := by rw [hY]; simp
    have hUd := hU.drop
    rw [hdl] at hUd
    have hLc : ∀ y, (pendL L).count y = (pendL Y).count y + (pend (topT L)).count y := fun y => by conv => lhs; rw [hY, pendL_push, List.count_append]
    simp only [eff, m1, hdl]
    have hpe : pend (topT L) = (topT L).more := by simp [pend, hk]
    refine ⟨⟨aok_lay _ _ _ _ rfl rfl (AOk_pas _ _ _ _ ⟨by omega, by simp only [List.length_append, List.length_cons, List.length_nil]; omega⟩), fun y => ?_, ?_, hUd⟩, fun h => absurd rfl h⟩
    · rw [hLc, hpe]
      show _ + (waitL (_ :: pas _ _)).count y = (doneL (_ :: pas _ _)).count y + _
      simp only [waitL, doneL, List.flatMap_cons]
      have e1 := pas_wait (topT L).more (here + 8)
      have e2 := pas_done (topT L).more (here + 8)
      unfold waitL at e1
      unfold doneL at e2
      rw [e1, e2]
      simp [waitA, doneA]
      omega
    · left
      show waitL (_ :: pas _ _) = []
      have e1 := pas_wait (topT L).more (here + 8)
      unfold waitL at e1 ⊢
      rw [List.flatMap_cons, e1]
      simp [waitA]
  | 11 =>
    have hk : (topT L).k = wantK 11 := hw.resolve_left (by decide)
    simp only [wantK] at hk
    have hL := posT_top hw (by decide)
    have ht8 := (hP.to _ (topT_mem L hL)).1 (by omega)
    have ht3 := (hP.to _ (topT_mem L hL)).2.2.1
    have hmo := hU.more _ (topT_mem L hL)
    obtain ⟨Y, hY⟩ := top_split hL
    have hdl : L.dropLast = Y := by rw [hY]; simp
    have hUd := hU.drop
    rw [hdl] at hUd
    have hLc : ∀ y, (pendL L).count y = (pendL Y).count y + (pend (topT L)).count y := fun y => by conv => lhs; rw [hY, pendL_push, List.count_append]
    simp only [eff, m1, hdl]
    have hpe : pend (topT L) = (topT L).more := by simp [pend, hk]
    refine ⟨⟨aok_lay _ _ _ _ rfl rfl (AOk_pas _ _ _ _ ⟨by omega, by simp only [List.length_append, List.length_cons, List.length_nil]; omega⟩), fun y => ?_, ?_, hUd⟩, fun h => absurd rfl h⟩
    · rw [hLc, hpe]
      show _ + (waitL (_ :: pas _ _)).count y = (doneL (_ :: pas _ _)).count y + _
      simp only [waitL, doneL, List.flatMap_cons]
      have e1 := pas_wait (topT L).more (here + 8)
      have e2 := pas_done (topT L).more (here + 8)
      unfold waitL at e1
      unfold doneL at e2
      rw [e1, e2]
      simp [waitA, doneA]
      omega
    · left
      show waitL (_ :: pas _ _) = []
      have e1 := pas_wait (topT L).more (here + 8)
      unfold waitL at e1 ⊢
      rw [List.flatMap_cons, e1]
      simp [waitA]
  | 16 =>
    have hk : (topT L).k = wantK 16 := hw.resolve_left (by decide)
    simp only [wantK] at hk
    have hL := posT_top hw (by decide)
    have ht3 := (hP.to _ (topT_mem L hL)).2.2.1
    have hmo := hU.more _ (topT_mem L hL)
    obtain ⟨Y, hY⟩ := top_split hL
    have hdl : L.dropLast = Y := by rw [hY]; simp
    have hUd := hU.drop
    rw [hdl] at hUd
    have hLc : ∀ y, (pendL L).count y = (pendL Y).count y + (pend (topT L)).count y := fun y => by conv => lhs; rw [hY, pendL_push, List.count_append]
    simp only [eff, m1, hdl]
    have hpe : pend (topT L) = (topT L).more := by simp [pend, hk]
    refine ⟨⟨aok_lay _ _ _ _ rfl rfl (AOk_pas _ _ _ _ ⟨by omega, by simp only [List.length_append, List.length_cons, List.length_nil]; omega⟩), fun y => ?_, ?_, hUd⟩, fun h => absurd rfl h⟩
    · rw [hLc, hpe]
      show _ + (waitL (_ :: pas _ _)).count y = (doneL (_ :: pas _ _)).count y + _
      simp only [waitL, doneL, List.flatMap_cons]
      have e1 := pas_wait (topT L).more (here + 8)
      have e2 := pas_done (topT L).more (here + 8)
      unfold waitL at e1
      unfold doneL at e2
      rw [e1, e2]
      simp [waitA, doneA]
      omega
    · left
      show waitL (_ :: pas _ _) = []
      have e1 := pas_wait (topT L).more (here + 8)
      unfold waitL at e1 ⊢
      rw [List.flatMap_cons, e1]
      simp [waitA]
  | 12 =>
    simp only [eff, m1, m2]
    cases hd : doFrom L L.length with
    | none => exact ⟨keep_none L here hU, fun _ => rfl⟩
    | some j =>
      have hj := doFrom_lt _ _ _ hd
      simp only
      refine ⟨⟨aok_lay _ _ _ _ rfl rfl (aok1 _ _ _ rfl rfl), fun y => ?_, by right; exact ⟨here + 8, by simp [waitL, waitA], by omega, by first | (simp [layN]; done) | (simp [layN]; omega)⟩, hU.set j _ hj (.inl (doFrom_k _ _ _ hd))⟩, fun h => absurd rfl h⟩
      rw [count_set L j (here + 8) y hj]
      simp [waitL, waitA, doneL, doneA]
  | 13 =>
    simp only [eff, m1, m2, m3, m4]
    split
    · exact ⟨keep_none L here hU, fun _ => rfl⟩
    · exact ⟨kp_push hU (trivial) (fun y => by simp [waitL, waitA, doneL, doneA, pend, layN]) (by left; rfl) (by simp) (fun e => by simp at e), fun h => absurd rfl h⟩
  | 14 =>
    have hk : (topT L).k = wantK 14 := hw.resolve_left (by decide)
    simp only [wantK] at hk
    simp only [eff, m1, m2, m3, m4]
    split
    · exact ⟨keep_none L here hU, fun _ => rfl⟩
    · refine ⟨kp_push hU (aok_lay _ _ _ _ rfl rfl (aok_lay _ _ _ _ rfl rfl (aok_lay _ _ _ _ rfl (by simp only; omega) (aok1 _ _ _ rfl (by simp only; omega))))) (fun y => ?_) (by right; exact ⟨here + 16, by simp [waitL, waitA], by omega, by first | (simp [layN]; done) | (simp [layN]; omega)⟩) (by simp) (fun _ => hk), fun h => absurd rfl h⟩
      simp [waitL, waitA, doneL, doneA, pend]
  | 15 =>
    have hk : (topT L).k = wantK 15 := hw.resolve_left (by decide)
    simp only [wantK] at hk
    have hL := posT_top hw (by decide)
    have ht8 := (hP.to _ (topT_mem L hL)).1 (by omega)
    have ht3 := (hP.to _ (topT_mem L hL)).2.2.1
    have hmo := hU.more _ (topT_mem L hL)
    obtain ⟨Y, hY⟩ := top_split hL
    have hdl : L.dropLast = Y := by rw [hY]; simp
    have hUd := hU.drop
    rw [hdl] at hUd
    have hLc : ∀ y, (pendL L).count y = (pendL Y).count y + (pend (topT L)).count y := fun y => by conv => lhs; rw [hY, pendL_push, List.count_append]
    simp only [eff, m1]
    have hl : L.length = Y.length + 1 := by rw [hY]; simp
    have hYl : 0 < Y.length := by
      rcases Nat.eq_zero_or_pos Y.length with h0 | h0
      · exfalso
        have : Y = [] := List.eq_nil_of_length_eq_zero h0
        rw [this] at hY
        refine hlow _ (by rw [hY]; rfl) hk
      · exact h0
    obtain ⟨Z, u, rfl⟩ : ∃ Z u, Y = Z ++ [u] := ⟨Y.dropLast, Y.getLast (List.length_pos_iff.1 hYl), (List.dropLast_concat_getLast _).symm⟩
    have hlz : L.length - 2 = Z.length := by rw [hl]; simp
    have hg : L.getD Z.length th0 = u := by rw [hY, List.getD_eq_getElem?_getD]; simp
    obtain ⟨tt, htt⟩ : ∃ tt, topT L = tt := ⟨_, rfl⟩
    rw [htt] at hY hk ht8 hmo hLc ⊢
    have hk5 : u.k = 5 := hU.under Z.length u tt (by rw [hY]; simp) (by rw [hY]; simp) hk
    have hset : (L.set (L.length - 2) ((L.getD (L.length - 2) th0).plus here)).dropLast = Z ++ [u.plus here] := by
      rw [hlz, hg, hY]; simp [List.dropLast_append_of_ne_nil]
    rw [hset]
    have hUz : Und (Z ++ [u.plus here]) := by
      have := hUd.set Z.length here (by simp) (by right; rw [List.getD_eq_getElem?_getD]; simpa using hk5)
      rw [List.getD_eq_getElem?_getD] at this
      simpa using this
    refine ⟨⟨aok_lay _ _ _ _ rfl rfl (aok_pat _ _ _ _ rfl rfl (by simp only; omega) (by simp only [List.length_cons, List.length_nil]; omega) trivial), fun y => ?_, by right; exact ⟨here, by simp [waitL, waitA], by omega, by first | (simp [layN]; done) | (simp [layN]; omega)⟩, hUz⟩, fun h => absurd rfl h⟩
    rw [hLc, pendL_push, pendL_push, List.count_append, List.count_append]
    have hp : pend (u.plus here) = pend u ++ [here] := (List.append_assoc _ _ _).symm
    rw [hp, List.count_append]
    simp [waitL, waitA, doneL, doneA, pend, hk, hmo (by omega) (by omega)]
    omega
  | k + 17 => exact absurd (Nat.le_add_left 17 k) h17
end Go.Proofs.Ytmfffaocmboelaa
