import Derived.Test.YtmfffaocmboelaaFwS
namespace Go.Proofs.Ytmfffaocmboelaa
open Go.RowKit
set_option linter.unusedVariables false
set_option linter.unusedSimpArgs false
/-! the document's Row; a word behind a word; shown; FlowKnown -/
theorem below_drewN {B : Nat} {a b : World} (h : Below B a b) (n : Nat) : Below B a (b.drewN n) := ⟨h.os, h.tape, h.output, h.size, h.block⟩
theorem names_any (w : World) : Calls Try.prog 22 #[] w fun e w' => e = .returned (.slice (some ⟨w.heap.size, 0, none⟩) 17 17) ∧ w' = w.alloc (.cells nmV 9) := by
  go_enter Try.func22, Try.ntmps22
  go_wp2_with (fail)
  go_returns
  exact ⟨rfl, rfl⟩
set_option maxHeartbeats 1000000 in
set_option maxRecDepth 100000 in
theorem rrow_any (s : ByteArray) (w : World) (hs : s.size ≤ maxLen) :
    Calls Try.prog 11 #[.string s] w fun e w' => e = .returned (.int .i64 (if row s = 17 then -1 else (row s : Int))) ∧ Below w.heap.size w w' := by
  have hN0 := Lib.hid nmV_at
  obtain ⟨ans, hans⟩ : ∃ ans : Int, (if row s = 17 then -1 else (row s : Int)) = ans := ⟨_, rfl⟩
  rw [hans]
  replace hans := Lib.hid hans
  go_enter Try.func11, Try.ntmps11
  go_wp2_with (fail)
  refine (names_any w).mono ?_
  rintro e w1 ⟨rfl, hw1⟩
  have hBk : Bk w1 w.heap.size 9 nmV := by rw [hw1]; exact Bk.fresh w _ _
  have hB : Below w.heap.size w w1 := by rw [hw1]; exact (Below.refl _ _).alloc (Nat.le_refl _) _
  obtain ⟨b, hb⟩ : ∃ b, w.heap.size = b := ⟨_, rfl⟩
  rw [hb] at hBk hB
  rw [hb]
  obtain ⟨A, hA⟩ : ∃ A, nmV = A := ⟨_, rfl⟩
  rw [hA] at hN0 hBk
  clear hw1 hA
  replace hBk := Lib.hid hBk
  replace hB := Lib.hid hB
  replace hb := Lib.hid hb
  go_wp2_with (fail)
  go_loopw [4] (fun i wr => ∃ j : Nat, i = .int .i64 j ∧ j ≤ 17 ∧ rowFrom s j (17 - j) = row s ∧ ∃ m, wr = w1.drewN m) (fun i _ => 17 - (intOf i).toNat)
  case atStart => exact ⟨0, rfl, by omega, rfl, 0, rfl⟩
  case round =>
    obtain ⟨j, rfl, hj, hr, m, hm⟩ := hrel
    have j0 : (0 : Int) ≤ j := by omega
    have hcell : ∀ p, wr.cell? p = w1.cell? p := fun p => by rw [hm]; rfl
    replace hm : Hid (∃ m, wr = w1.drewN m) := ⟨m, hm⟩
    by_cases h : j < 17
    · have j1 : (j : Int) < 17 := by omega
      have c0 : wr.cell? ⟨b, j, none⟩ = some (.string (nm j)) := (hcell _).trans ((hBk.out.cell j).trans (hN0.out j h))
      have hz := nm_size j
      have hz2 : (nm j).size ≤ maxLen := by unfold maxLen; omega
      have h17 := Lib.hid h
      have hr0 := Lib.hid hr
      have hno := Lib.hid (rowFrom_no s j h)
      have hyes := Lib.hid (rowFrom_yes s j h)
      clear hr hz h hcell
      obtain ⟨v, hv⟩ : ∃ v, nm j = v := ⟨_, rfl⟩
      rw [hv] at c0 hz2
      have hv0 := Lib.hid hv
      clear hv
      cases hq : sameOk v s
      · have hq0 := Lib.hid hq
        clear hq
        go_wp2_with (go_at_call 23; refine (rsame_any v s _ hz2 hs).mono ?_; rintro e w2 ⟨rfl, hw2⟩; have hq1 := hq0.out; rw [hq1]; replace hw2 := Lib.hid hw2)
        obtain ⟨m, hm⟩ := hm.out
        obtain ⟨m2, hm2⟩ := hw2.out
        refine ⟨⟨j + 1, rfl, by omega, ?_, m + m2, by rw [hm2, hm, World.drewN_drewN]⟩, by simp [intOf]; omega⟩
        rw [← hr0.out, hno.out (by rw [hv0.out, hq0.out])]
      · have hq0 := Lib.hid hq
        clear hq
        go_wp2_with (go_at_call 23; refine (rsame_any v s _ hz2 hs).mono ?_; rintro e w2 ⟨rfl, hw2⟩; have hq1 := hq0.out; rw [hq1]; replace hw2 := Lib.hid hw2)
        go_returns
        obtain ⟨m, hm⟩ := hm.out
        obtain ⟨m2, hm2⟩ := hw2.out
        have e : row s = j := by rw [← hr0.out, hyes.out (by rw [hv0.out, hq0.out])]
        refine ⟨?_, ?_⟩
        · rw [← hans.out, e, if_neg (by have := h17.out; omega)]; rfl
        · rw [hm2, hm, hb.out]; exact below_drewN (below_drewN hB.out m) m2
    · have e : j = 17 := by omega
      subst e
      have hr0 := Lib.hid hr
      clear hr h hcell
      go_wp2_with (fail)
      go_returns
      obtain ⟨m, hm⟩ := hm.out
      refine ⟨?_, by rw [hm, hb.out]; exact below_drewN hB.out m⟩
      have e : row s = 17 := by rw [← hr0.out]; rfl
      rw [← hans.out, e]; rfl
section
variable {w w' : World} {F : Nat} {own : Nat → Prop} {v : Value} {X : List (Th × Value)}
/-- a flow whose blocks are told by what it holds -/
structure Fw (w : World) (F : Nat) (v : Value) (X : List (Th × Value)) (L : List Th) (i B : Nat) : Prop where
  fl : Fl w F (ownOf v X) v X
  th : X.map Prod.fst = L
  ord : Ord L i
  ge : B ≤ F ∧ ∀ k, ownOf v X k → B ≤ k
theorem fw_new (w : World) : Fw (w.alloc (.cells #[.slice none 0 0] 57)) w.heap.size (.slice none 0 0) [] [] 0 w.heap.size :=
  ⟨fl_new w, rfl, ⟨by decide, fun x hx => (by cases hx), fun x hx => (by cases hx)⟩, Nat.le_refl _, fun k h => h.elim (fun h => by simp [Value.ownBlock] at h) (fun ⟨x, hx, _⟩ => by cases hx)⟩
/-- what a word may turn of a flow -/
def Own (F : Nat) (v : Value) (X : List (Th × Value)) (n k : Nat) : Prop := k = F ∨ ownOf v X k ∨ n ≤ k
theorem Fw.keep {L : List Th} {i B : Nat} {s : Nat → Prop} (h : Fw w F v X L i B) (hO : Onl s w w') (hs : ∀ k, (k = F ∨ ownOf v X k) → ¬ s k) : Fw w' F v X L i B := ⟨h.fl.keep hO hs, h.th, h.ord, h.ge⟩
theorem Fw.lt {L : List Th} {i B : Nat} (h : Fw w F v X L i B) {k : Nat} (hk : k = F ∨ ownOf v X k) : k < w.heap.size := hk.elim (fun e => e ▸ h.fl.bk.lt) (fun h1 => h.fl.old k h1)
theorem Fw.kept {L : List Th} {i B : Nat} (h : Fw w F v X L i B) (hB : Below w.heap.size w w') : Fw w' F v X L i B :=
  h.keep (s := fun k => w.heap.size ≤ k) (Onl.of_below hB (fun k _ hk => by omega)) (fun k hk h1 => by have := h.lt hk; omega)
theorem Fw.draws {L : List Th} {i B : Nat} (h : Fw w F v X L i B) (n : Nat) : Fw (w.drewN n) F v X L i B := h.kept (below_drewN (Below.refl _ _) n)
theorem word_fw {L : List Th} {i B : Nat} (h : Fw w F v X L i B) (s : ByteArray) (here : Int) (hs : s.size ≤ maxLen) (hi : i < 50000) (st : St) (hst : Go.Proofs.Ytmfffaocmboelaa.step L (row s) here = st) :
    Calls Try.prog 9 #[.pointer (some ⟨F, 0, none⟩), .string s, .int .i64 here] w fun e w' => ∃ va v' X', e = .returned (.tuple #[va, .int .i64 st.f]) ∧ w'.ownsRow w.heap.size 36 4 va st.acts.length (actC st.acts) ∧ Fw w' F v' X' st.L (i + 1) B ∧ Onl (Own F v X w.heap.size) w w' ∧ ∀ k, ownOf v' X' k → ownOf v X k ∨ w.heap.size ≤ k := by
  subst hst
  have ho := h.ord.step (row s) here
  refine (word_any s here h.fl hs).mono fun e w' hd => ?_
  rw [h.th] at hd
  obtain ⟨va, v', X', he, hrow, hF, hL, hO, hown⟩ := done_fl h.fl hd ho (by omega)
  have hz := h.fl.bk.lt
  exact ⟨va, v', X', he, hrow, ⟨hF, hL, ho, h.ge.1, fun k hk => (hown k hk).elim (h.ge.2 k) (fun h1 => by have := h.ge.1; omega)⟩, hO, hown⟩
/-- acts that lie behind an earlier word lie there still -/
theorem Fw.acts {L : List Th} {i B base n : Nat} {va : Value} {xs : List Value} (h : Fw w F v X L i B) (hr : w.ownsRow base 36 4 va n xs) (hO : Onl (Own F v X w.heap.size) w w') : w'.ownsRow base 36 4 va n xs :=
  hO.row hr (fun g hg hk => by
    rcases hk with rfl | hk | hk
    · exact h.fl.bk.far hr (by decide) hg.symm
    · rcases hk with hk | ⟨x, hx, hk⟩
      · exact row_far h.fl.rw.row hr (by decide) hk hg
      · exact row_far (h.fl.rw.more x hx) hr (by decide) hk hg
    · have := (hr.lt g hg).2; omega)
theorem Fw.below {L : List Th} {i B : Nat} (h : Fw w F v X L i B) (hO : Onl (Own F v X w.heap.size) w w') : Below B w w' :=
  hO.below (by have := h.ge.1; have := h.fl.bk.lt; omega) (fun k hk => by
    rcases hk with rfl | hk | hk
    · exact h.ge.1
    · exact h.ge.2 k hk
    · have := h.ge.1; have := h.fl.bk.lt; omega)
theorem lies_lit (w : World) (t : TypeId) (l : List Ac) (c n : Nat) (hn : l.length = n) (cs : Array Value) (hcs : (actC l).toArray = cs) : Lies (w.alloc (.cells cs t)) (.slice (some ⟨w.heap.size, 0, none⟩) n c) l := by
  subst hn; subst hcs
  refine ⟨_, _, rfl, fun _ => ⟨_, rfl, fun i a ha => ?_⟩⟩
  have hc : ∀ j, j < 4 → (w.alloc (.cells (actC l).toArray t)).cell? ⟨w.heap.size, i * 4 + j, none⟩ = a.cells[j]? := fun j hj => by
    rw [(Bk.fresh w t (actC l).toArray).cell (i * 4 + j)]
    simpa using actC_at l i a ha j hj
  exact ⟨hc 0 (by omega), hc 1 (by omega), hc 2 (by omega), hc 3 (by omega)⟩
theorem lies_kept {v : Value} {l : List Ac} {base : Nat} {e : TypeId} (h : w.ownsRow base e 4 v l.length (actC l)) (hB : Below w.heap.size w w') : Lies w' v l := lies_row (own_below h hB (Nat.le_refl _))
end
theorem row_if : row ⟨#[105, 102]⟩ = 0 := by rw [row_c]; decide +kernel
theorem row_else : row ⟨#[101, 108, 115, 101]⟩ = 1 := by rw [row_c]; decide +kernel
theorem row_then : row ⟨#[116, 104, 101, 110]⟩ = 2 := by rw [row_c]; decide +kernel
theorem st_1 : Go.Proofs.Ytmfffaocmboelaa.step [] (row ⟨#[105, 102]⟩) 8 = ⟨0, [⟨false, 8, 5, 0⟩], [⟨1, 8, 0, []⟩]⟩ := by rw [row_if]; kernel_rfl
theorem st_2 : Go.Proofs.Ytmfffaocmboelaa.step [⟨1, 8, 0, []⟩] (row ⟨#[101, 108, 115, 101]⟩) 16 = ⟨0, [⟨false, 16, 4, 0⟩, ⟨true, 8, 0, 24⟩], [⟨1, 16, 0, []⟩]⟩ := by rw [row_else]; kernel_rfl
theorem st_3 : Go.Proofs.Ytmfffaocmboelaa.step [⟨1, 16, 0, []⟩] (row ⟨#[116, 104, 101, 110]⟩) 40 = ⟨0, [⟨true, 16, 0, 40⟩], []⟩ := by rw [row_then]; kernel_rfl
theorem st_4 : Go.Proofs.Ytmfffaocmboelaa.step [] (row ⟨#[116, 104, 101, 110]⟩) 40 = ⟨10, [], []⟩ := by rw [row_then]; kernel_rfl
end Go.Proofs.Ytmfffaocmboelaa
