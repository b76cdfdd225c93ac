import Derived.Test.YtmfffaocmboelaaFwR
namespace Go.Proofs.Ytmfffaocmboelaa
open Go.RowKit
set_option linter.unusedVariables false
set_option linter.unusedSimpArgs false
/-! New, Open, End, Known; the document's Row; sameActs -/
section
variable {w w' : World} {F : Nat} {own : Nat → Prop} {v : Value} {X : List (Th × Value)}
def ownOf (v : Value) (X : List (Th × Value)) (k : Nat) : Prop := v.ownBlock = some k ∨ ∃ x ∈ X, x.2.ownBlock = some k
theorem Rws.least (h : Rws w own v X) : Rws w (ownOf v X) v X := ⟨h.row, h.more, h.dist, fun g hg => .inl hg, fun x hx g hg => .inr ⟨x, hx, hg⟩⟩
theorem Rws.of_least (h : Rws w own v X) {k : Nat} (hk : ownOf v X k) : own k := hk.elim (h.own1 k) (fun ⟨x, hx, hg⟩ => h.own2 x hx k hg)
theorem Rws.least_lt (h : Rws w own v X) {k : Nat} (hk : ownOf v X k) : k < w.heap.size :=
  hk.elim (fun hg => (h.row.lt k hg).2) (fun ⟨x, hx, hg⟩ => ((h.more x hx).lt k hg).2)
theorem Fl.keep {s : Nat → Prop} (h : Fl w F own v X) (hO : Onl s w w') (hs : ∀ k, (k = F ∨ own k) → ¬ s k) : Fl w' F own v X :=
  ⟨hO.bk h.bk (hs F (.inl rfl)), h.rw.frame hO (fun k hk => hs k (.inr hk)), h.out, fun k hk => Nat.lt_of_lt_of_le (h.old k hk) hO.size, h.len, h.more, h.low⟩
theorem Fl.least (h : Fl w F own v X) : Fl w F (ownOf v X) v X := ⟨h.bk, h.rw.least, fun hk => h.out (h.rw.of_least hk), fun k hk => h.rw.least_lt hk, h.len, h.more, h.low⟩
/-- the same, told anew -/
theorem done_fl {st : St} {e : Ending} {i : Nat} (h : Fl w F own v X) (hd : Done w w' F own st e) (ho : Ord st.L i) (hi : i ≤ 50000) :
    ∃ va v' X', e = .returned (.tuple #[va, .int .i64 st.f]) ∧ w'.ownsRow w.heap.size 36 4 va st.acts.length (actC st.acts) ∧ Fl w' F (ownOf v' X') v' X' ∧ X'.map Prod.fst = st.L ∧ Onl (fun k => k = F ∨ own k ∨ w.heap.size ≤ k) w w' ∧ ∀ k, ownOf v' X' k → own k ∨ w.heap.size ≤ k := by
  obtain ⟨va, v', X', he, hrow, hF, hR, hL, hO⟩ := hd
  refine ⟨va, v', X', he, hrow, fl_ord hF hR.least (fun hk => ?_) (fun k hk => hR.least_lt hk) (by rw [hL]; exact ho) hi, hL, hO, fun k hk => hR.of_least hk⟩
  rcases hR.of_least hk with h1 | h1
  · exact h.out h1
  · have := h.bk.lt; omega
theorem new_any (w : World) : Calls Try.prog 8 #[] w fun e w' => e = .returned (.pointer (some ⟨w.heap.size, 0, none⟩)) ∧ w' = w.alloc (.cells #[.slice none 0 0] 57) := by
  go_enter Try.func8, Try.ntmps8
  go_wp2_with (fail)
  go_returns
  exact ⟨rfl, rfl⟩
theorem fl_new (w : World) : Fl (w.alloc (.cells #[.slice none 0 0] 57)) w.heap.size (ownOf (.slice none 0 0) []) (.slice none 0 0) [] :=
  ⟨Bk.fresh w _ _, Rws.nil _ _, fun h => h.elim (fun h => by simp [Value.ownBlock] at h) (fun ⟨x, hx, _⟩ => by cases hx), fun k h => h.elim (fun h => by simp [Value.ownBlock] at h) (fun ⟨x, hx, _⟩ => by cases hx), by decide, fun x hx => (by cases hx), fun x hx => (by cases hx)⟩
theorem open_any (h : Fl w F own v X) : Calls Try.prog 13 #[.pointer (some ⟨F, 0, none⟩)] w fun e w' => e = .returned (.int .i64 X.length) ∧ w' = w := by
  obtain ⟨A, c, hv⟩ := own_form h.rw.row
  have f0 := h.bk.cell 0
  rw [hv] at f0
  simp at f0
  clear h hv
  go_enter Try.func13, Try.ntmps13
  go_wp2_with (fail)
  go_returns
  exact ⟨rfl, rfl⟩
theorem end_any (h : Fl w F own v X) : Calls Try.prog 14 #[.pointer (some ⟨F, 0, none⟩)] w fun e w' => e = .returned (.int .i64 (if X.length = 0 then 0 else 10)) ∧ w' = w := by
  obtain ⟨A, c, hv⟩ := own_form h.rw.row
  have f0 := h.bk.cell 0
  rw [hv] at f0
  simp at f0
  clear h hv
  obtain ⟨n, hn⟩ : ∃ n, X.length = n := ⟨_, rfl⟩
  rw [hn] at f0 ⊢
  clear hn
  by_cases h0 : n = 0
  · subst h0
    go_enter Try.func14, Try.ntmps14
    go_wp2_with (fail)
    go_returns
    exact ⟨rfl, rfl⟩
  · have i0 : decide (0 < n) = true := by simp; omega
    rw [if_neg h0]
    replace h0 := Lib.hid h0
    go_enter Try.func14, Try.ntmps14
    go_wp2_with (fail)
    go_returns
    exact ⟨rfl, rfl⟩
theorem nm_17 (r : Nat) (hr : r ≤ 17) : (nm r).toList.isEmpty = decide (r = 17) := by
  by_cases h : r = 17
  · subst h; decide +kernel
  · rw [nm_ne r (by omega), decide_eq_false h]
theorem Known_any (s : ByteArray) (hs : s.size ≤ maxLen) (w : World) : Calls Try.prog 10 #[.string s] w fun e w' => e = .returned (.bool (!decide (row s = 17))) ∧ Below w.heap.size w w' := by
  have hk := known_any s w hs
  have hn := nm_17 (row s) (row_le s)
  obtain ⟨nmr, hnm⟩ : ∃ n, nm (row s) = n := ⟨_, rfl⟩
  rw [hnm] at hk hn
  rw [← hn]
  replace hk := Lib.hid hk
  clear hn hnm
  go_enter Try.func10, Try.ntmps10
  go_wp2_with (fail)
  refine hk.out.mono ?_
  rintro e w1 ⟨rfl, hb1⟩
  go_wp2_with (fail)
  go_returns
  exact ⟨rfl, hb1⟩
end
/-! acts that lie somewhere -/
def Lies (w : World) (v : Value) (l : List Ac) : Prop := ∃ A c, v = .slice A l.length c ∧ (0 < l.length → ∃ g, A = some ⟨g, 0, none⟩ ∧ ∀ i a, l[i]? = some a → w.cell? ⟨g, i * 4, none⟩ = some (.bool a.patch) ∧ w.cell? ⟨g, i * 4 + 1, none⟩ = some (.int .i64 a.at_) ∧ w.cell? ⟨g, i * 4 + 2, none⟩ = some (.int .i64 a.op) ∧ w.cell? ⟨g, i * 4 + 3, none⟩ = some (.int .i64 a.tgt))
theorem actC_at (l : List Ac) (i : Nat) (a : Ac) (h : l[i]? = some a) (j : Nat) (hj : j < 4) : (actC l)[i * 4 + j]? = a.cells[j]? := by
  induction l generalizing i with
  | nil => simp at h
  | cons y l ih =>
    have hc : actC (y :: l) = y.cells ++ actC l := by simp [actC]
    have hl : y.cells.length = 4 := rfl
    rw [hc]
    match i, h with
    | 0, h =>
      simp at h
      subst h
      rw [List.getElem?_append_left (by omega)]
      simp
    | i + 1, h =>
      rw [List.getElem?_append_right (by omega), hl, show (i + 1) * 4 + j - 4 = i * 4 + j by omega]
      exact ih i (by simpa using h)
theorem actC_len (l : List Ac) : (actC l).length = l.length * 4 := by
  induction l with
  | nil => rfl
  | cons y l ih =>
    have hc : actC (y :: l) = y.cells ++ actC l := by simp [actC]
    rw [hc, List.length_append, ih]
    simp [Ac.cells]; omega
theorem lies_row {w : World} {base : Nat} {e : TypeId} {v : Value} {l : List Ac} (h : w.ownsRow base e 4 v l.length (actC l)) : Lies w v l := by
  obtain ⟨A, c, rfl⟩ := own_form h
  refine ⟨A, c, rfl, fun hl => ?_⟩
  rcases h.2 with ⟨_, h0⟩ | ⟨g, cap, cur, e1, hb, hg, hnc, _⟩
  · omega
  · injection e1 with e1 _ e2
    subst e1; subst e2
    refine ⟨g, rfl, fun i a ha => ?_⟩
    have hi : i < l.length := (List.getElem?_eq_some_iff.1 ha).1
    have hc : ∀ j, j < 4 → w.cell? ⟨g, i * 4 + j, none⟩ = a.cells[j]? := fun j hj => by
      rw [h.cellAt _ (by omega)]
      exact actC_at l i a ha j hj
    exact ⟨hc 0 (by omega), hc 1 (by omega), hc 2 (by omega), hc 3 (by omega)⟩
set_option maxHeartbeats 1000000 in
theorem sameActs_yes {w : World} {va vb : Value} {l : List Ac} (ha : Lies w va l) (hb : Lies w vb l) (hl : l.length ≤ 100000) :
    Calls Try.prog 16 #[va, vb] w fun e w' => e = .returned (.bool true) ∧ ∃ n, w' = w.drewN n := by
  obtain ⟨A, c, rfl, ha⟩ := ha
  obtain ⟨B, c', rfl, hb⟩ := hb
  obtain ⟨n, hn⟩ : ∃ n, l.length = n := ⟨_, rfl⟩
  rw [hn] at ha hb hl ⊢
  have i2 : ((n : Int) != n) = false := by simp
  have i3 : (n : Int) ≤ 100000 := by omega
  replace ha := Lib.hid ha
  replace hb := Lib.hid hb
  replace hn := Lib.hid hn
  replace hl := Lib.hid hl
  go_enter Try.func16, Try.ntmps16
  go_wp2_with (fail)
  go_loopw [5] (fun i wr => ∃ j : Nat, i = .int .i64 j ∧ j ≤ n ∧ ∃ m, wr = w.drewN m) (fun i _ => n - (intOf i).toNat)
  case atStart => exact ⟨0, rfl, by omega, 0, rfl⟩
  case round =>
    obtain ⟨j, rfl, hj, m, hm⟩ := hrel
    have j0 : (0 : Int) ≤ j := by omega
    by_cases h : j < n
    · have j1 : (j : Int) < n := by omega
      obtain ⟨g, rfl, hg⟩ := ha.out (by omega)
      obtain ⟨g', rfl, hg'⟩ := hb.out (by omega)
      obtain ⟨a, hat⟩ : ∃ a, l[j]? = some a := ⟨_, List.getElem?_eq_getElem (by have := hn.out; omega)⟩
      obtain ⟨q0, q1, q2, q3⟩ := hg j a hat
      obtain ⟨p0, p1, p2, p3⟩ := hg' j a hat
      have hcell : ∀ p, wr.cell? p = w.cell? p := fun p => by rw [hm]; rfl
      have r0 := (hcell _).trans q0
      have r1 := (hcell _).trans q1
      have r2 := (hcell _).trans q2
      have r3 := (hcell _).trans q3
      have s0 := (hcell _).trans p0
      have s1 := (hcell _).trans p1
      have s2 := (hcell _).trans p2
      have s3 := (hcell _).trans p3
      clear q0 q1 q2 q3 p0 p1 p2 p3 hg hg' hcell
      obtain ⟨b0, z1, z2, z3⟩ := a
      simp only at r0 r1 r2 r3 s0 s1 s2 s3
      have n0 : (b0 != b0) = false := by simp
      have n1 : (z1 != z1) = false := by simp
      have n2 : (z2 != z2) = false := by simp
      have n3 : (z3 != z3) = false := by simp
      replace hat := Lib.hid hat
      have HW : Hid (∃ m, wr = w.drewN m) := ⟨m, hm⟩
      clear hm
      go_wp2_with (fail)
      go_quiet (fail)
      go_wp2_with (fail)
      obtain ⟨m, hm⟩ := HW.out
      refine ⟨⟨j + 1, rfl, by omega, m + nq, by rw [hm, World.drewN_drewN]⟩, by simp [intOf]; omega⟩
    · have e : j = n := by omega
      subst e
      go_wp2_with (fail)
      go_returns
      exact ⟨rfl, m, by first | rfl | exact hm⟩
/-! which row a name has, computed -/
def sameC (a b : ByteArray) : Bool := a.size == b.size && (lowS a).toList == (lowS b).toList
theorem same_c (a b : ByteArray) : sameOk a b = sameC a b := by
  unfold sameC
  by_cases h : a.size = b.size
  · rw [same_is a b h]; simp [h]
  · unfold sameOk
    rw [decide_eq_false (fun k => h k.1)]
    simp [h]
def rowCF (s : ByteArray) (i : Nat) : Nat → Nat
  | 0 => 17
  | f + 1 => if sameC (nm i) s = true then i else rowCF s (i + 1) f
theorem row_c (s : ByteArray) : row s = rowCF s 0 17 := by
  have : ∀ f i, rowFrom s i f = rowCF s i f := by
    intro f
    induction f with
    | zero => intro i; rfl
    | succ f ih => intro i; rw [rowFrom, rowCF, same_c, ih]
  exact this 17 0
end Go.Proofs.Ytmfffaocmboelaa
