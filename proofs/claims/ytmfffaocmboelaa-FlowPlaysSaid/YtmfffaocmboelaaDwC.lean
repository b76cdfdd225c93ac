import Derived.Test.YtmfffaocmboelaaDwB
namespace Go.Proofs.Ytmfffaocmboelaa
open Go.RowKit
set_option linter.unusedVariables false
set_option linter.unusedSimpArgs false
/-! one act more (the document's acts); the last DO; where operations are laid -/
theorem info_dact : (Try.prog.info? 54).map (fun i => (i.zero, i.size, i.bytes)) = some (some (.agg #[.bool false, .int .i64 0, .int .i64 0, .int .i64 0]), 4, 32) := by kernel_rfl
theorem dact_append {w : World} {base : Nat} {v : Value} {l : List Ac} (a : Ac) (h : w.ownsRow base 54 4 v l.length (actC l)) (hb : base ≤ w.heap.size) (hl : l.length ≤ 100000) :
    ∃ A' c' w2, (Builtin.append_ #[49, 49] 49 #[v, .slice (some ⟨w.heap.size, 0, none⟩) 1 1]).run Try.prog (w.alloc (.cells #[.bool a.patch, .int .i64 a.at_, .int .i64 a.op, .int .i64 a.tgt] 54)) = .ok (.slice A' (l ++ [a]).length c') w2 ∧
      w2.ownsRow base 54 4 (.slice A' (l ++ [a]).length c') (l ++ [a]).length (actC (l ++ [a])) ∧ w.grownBy w2 v.ownBlock := by
  obtain ⟨i9, hi, hz0, hz1, hz2⟩ := info_parts info_dact
  have hrow := h.alloc (.cells #[.bool a.patch, .int .i64 a.at_, .int .i64 a.op, .int .i64 a.tgt] 54)
  obtain ⟨v', w2, hrun, hown, hgr, _⟩ := run_append_own (P := Try.prog) (w.alloc (.cells #[.bool a.patch, .int .i64 a.at_, .int .i64 a.op, .int .i64 a.tgt] 54)) base 49 49 54 i9 _ 4 32 Try.underlying49 hi hz0 hz1 hz2 rfl (by decide) v l.length (actC l) hrow ⟨w.heap.size, 0, none⟩ 1 1 a.cells rfl (fun j u hu => by
    have := (Bk.fresh w 54 #[.bool a.patch, .int .i64 a.at_, .int .i64 a.op, .int .i64 a.tgt]).cell j
    rw [show ((⟨w.heap.size, 0, none⟩ : Addr).add j) = ⟨w.heap.size, j, none⟩ by unfold Addr.add; split <;> simp_all]
    exact this.trans (by simpa [Ac.cells] using hu)) (fun u hu => by simp [Ac.cells] at hu; rcases hu with rfl | rfl | rfl | rfl <;> rfl) (by unfold maxLen; omega) (by omega) (by simp; omega)
  have e : l.length + 1 = (l ++ [a]).length := by simp
  rw [e, actC_push] at hown
  obtain ⟨A', c', rfl⟩ := own_form hown
  have hg0 := World.grownBy_alloc w (.cells #[.bool a.patch, .int .i64 a.at_, .int .i64 a.op, .int .i64 a.tgt] 54) v.ownBlock
  exact ⟨A', c', w2, hrun, hown, ⟨hgr.os.trans hg0.os, hgr.tape.trans hg0.tape, hgr.output.trans hg0.output, Nat.le_trans hg0.size hgr.size, fun k hk hn => (hgr.block k (Nat.lt_of_lt_of_le hk hg0.size) hn).trans (hg0.block k hk hn)⟩⟩
/-- the last DO below i, as the document keeps it -/
def lastV (L : List Th) (i : Nat) : Int := match doFrom L i with
  | none => -1
  | some j => (j : Int)
theorem lastV_yes (L : List Th) (i : Nat) (h : (L.getD i th0).k = 4) : lastV L (i + 1) = (i : Int) := by
  unfold lastV
  have h' : (L.getD i ⟨0, 0, 0, []⟩).k = 4 := h
  rw [doFrom, if_pos h']
theorem lastV_no (L : List Th) (i : Nat) (h : ¬ (L.getD i th0).k = 4) : lastV L (i + 1) = lastV L i := by
  unfold lastV
  have h' : ¬ (L.getD i ⟨0, 0, 0, []⟩).k = 4 := h
  rw [doFrom, if_neg h']
/-- the operations that a row lays, one behind the other -/
def layO (here : Int) (i : Nat) : List Int → List Ac
  | [] => []
  | o :: l => ⟨false, IntKind.i64.wrap (here + IntKind.i64.wrap (8 * (i : Int))), o, 0⟩ :: layO here (i + 1) l
theorem layO_snoc (here : Int) (o : Int) : ∀ (l : List Int) (i : Nat), layO here i (l ++ [o]) = layO here i l ++ [⟨false, IntKind.i64.wrap (here + IntKind.i64.wrap (8 * ((i + l.length : Nat) : Int))), o, 0⟩]
  | [], i => rfl
  | a :: l, i => by
    rw [List.cons_append, layO, layO, layO_snoc here o l (i + 1)]
    rw [List.cons_append, List.length_cons, show i + 1 + l.length = i + (l.length + 1) by omega]
theorem layO_len (here : Int) : ∀ (l : List Int) (i : Nat), (layO here i l).length = l.length
  | [], i => rfl
  | a :: l, i => by rw [layO, List.length_cons, List.length_cons, layO_len here l (i + 1)]
theorem wrap_in (x : Int) (h : -9223372036854775808 ≤ x ∧ x ≤ 9223372036854775807) : IntKind.i64.wrap x = x := by rw [IntKind.wrap_i64]; omega
theorem lay_0 (here : Int) (h : -9223372036854775808 ≤ here ∧ here ≤ 9223372036854775807) : IntKind.i64.wrap (here + IntKind.i64.wrap (8 * ((0 : Nat) : Int))) = here := by
  rw [IntKind.wrap_i64, IntKind.wrap_i64]; omega
theorem lay_1 (here : Int) : IntKind.i64.wrap (here + IntKind.i64.wrap (8 * ((1 : Nat) : Int))) = nxt here := by
  unfold nxt; rw [IntKind.wrap_i64, IntKind.wrap_i64, IntKind.wrap_i64]; omega
theorem lay_2 (here : Int) : IntKind.i64.wrap (here + IntKind.i64.wrap (8 * ((2 : Nat) : Int))) = nxt (nxt here) := by
  unfold nxt; rw [IntKind.wrap_i64, IntKind.wrap_i64, IntKind.wrap_i64, IntKind.wrap_i64]; omega
theorem lay_3 (here : Int) : IntKind.i64.wrap (here + IntKind.i64.wrap (8 * ((3 : Nat) : Int))) = nxt (nxt (nxt here)) := by
  unfold nxt; rw [IntKind.wrap_i64, IntKind.wrap_i64, IntKind.wrap_i64, IntKind.wrap_i64, IntKind.wrap_i64]; omega
theorem lay_4 (here : Int) : IntKind.i64.wrap (here + IntKind.i64.wrap (8 * ((4 : Nat) : Int))) = nxt (nxt (nxt (nxt here))) := by
  unfold nxt; rw [IntKind.wrap_i64, IntKind.wrap_i64, IntKind.wrap_i64, IntKind.wrap_i64, IntKind.wrap_i64, IntKind.wrap_i64]; omega
/-- the document's word leaves what step says -/
def Ddone (w w' : World) (F : Nat) (own : Nat → Prop) (st : St) (e : Ending) : Prop :=
  ∃ va v' X', e = .returned (.tuple #[va, .int .i64 st.f]) ∧ w'.ownsRow w.heap.size 54 4 va st.acts.length (actC st.acts) ∧ Bk w' F 45 #[v'] ∧ Rwd w' (fun k => own k ∨ w.heap.size ≤ k) v' X' ∧ X'.map Prod.fst = st.L ∧ Onl (fun k => k = F ∨ own k ∨ w.heap.size ≤ k) w w'
section
variable {w w' : World} {F : Nat} {own : Nat → Prop} {v : Value} {X : List (Th × Value)}
theorem ddone_bel {st : St} {f : Int} (h : Dl w F own v X) (hB : Below w.heap.size w w') (hst : st = ⟨f, [], X.map Prod.fst⟩) : Ddone w w' F own st (.returned (.tuple #[.slice none 0 0, .int .i64 f])) := by
  subst hst
  exact ⟨_, v, X, rfl, World.ownsRow_nil _ _ _ _, h.bk.kept hB h.bk.lt, (h.rw.frame (Onl.of_below (s := fun k => w.heap.size ≤ k) hB (fun k _ hk => by omega)) (fun k hk => by have := h.old k hk; omega)).mono (fun _ h => .inl h), rfl, Onl.of_below hB (fun k hk _ => hk)⟩
set_option maxHeartbeats 1000000 in
set_option maxRecDepth 100000 in
theorem dword_17 (s : ByteArray) (here : Int) (h : Dl w F own v X) (hs : s.size ≤ maxLen) (hr : row s = 17) :
    Calls Try.prog 15 #[.pointer (some ⟨F, 0, none⟩), .string s, .int .i64 here] w fun e w' => Ddone w w' F own (Go.Proofs.Ytmfffaocmboelaa.step (X.map Prod.fst) (row s) here) e := by
  have hrr := rrow_any s w hs
  rw [hr, if_pos rfl] at hrr
  rw [hr]
  have hst : Go.Proofs.Ytmfffaocmboelaa.step (X.map Prod.fst) 17 here = ⟨8, [], X.map Prod.fst⟩ := by unfold Go.Proofs.Ytmfffaocmboelaa.step; rw [if_pos (Nat.le_refl _)]
  rw [hst]
  replace hrr := Lib.hid hrr
  replace h := Lib.hid h
  clear hst
  go_enter Try.func15, Try.ntmps15
  go_wp2_with (fail)
  refine hrr.out.mono ?_
  rintro e w1 ⟨rfl, hb1⟩
  go_wp2_with (fail)
  go_returns
  exact ddone_bel h.out hb1 rfl
end
end Go.Proofs.Ytmfffaocmboelaa
