import Derived.Test.YtmfffaocmboelaaDwG
import Derived.Test.YtmfffaocmboelaaDwH
import Derived.Test.YtmfffaocmboelaaDwI
import Derived.Test.YtmfffaocmboelaaDwJ
import Derived.Test.YtmfffaocmboelaaDwK
import Derived.Test.YtmfffaocmboelaaFwW
namespace Go.Proofs.Ytmfffaocmboelaa
open Go.RowKit
set_option linter.unusedVariables false
set_option linter.unusedSimpArgs false
/-! the document's Word, whole; a flow of the document's; four flows side by side -/
section
variable {w w' : World} {F : Nat} {own : Nat → Prop} {v : Value} {X : List (Th × Value)}
theorem dword_any (s : ByteArray) (here : Int) (h : Dl w F own v X) (hs : s.size ≤ maxLen) (hh : -9223372036854775808 ≤ here ∧ here ≤ 9223372036854775807) :
    Calls Try.prog 15 #[.pointer (some ⟨F, 0, none⟩), .string s, .int .i64 here] w fun e w' => Ddone w w' F own (Go.Proofs.Ytmfffaocmboelaa.step (X.map Prod.fst) (row s) here) e := by
  have hle := row_le s
  obtain ⟨r, hr⟩ : ∃ r, row s = r := ⟨_, rfl⟩
  have hr2 : r < 18 := by omega
  match r, hr2, hr with
  | 0, _, hr => exact dword_0 s here h hs hr hh
  | 1, _, hr =>
    by_cases hb : (topT (X.map Prod.fst)).k = 1
    · exact dyes_1 s here h hs hr hh hb
    · exact dbad_1 s here h hs hr hb
  | 2, _, hr =>
    by_cases hb : (topT (X.map Prod.fst)).k = 1
    · exact dyes_2 s here h hs hr hh hb
    · exact dbad_2 s here h hs hr hb
  | 3, _, hr => exact dword_3 s here h hs hr hh
  | 4, _, hr =>
    by_cases hb : (topT (X.map Prod.fst)).k = 2
    · exact dyes_4 s here h hs hr hh hb
    · exact dbad_4 s here h hs hr hb
  | 5, _, hr =>
    by_cases hb : (topT (X.map Prod.fst)).k = 2
    · exact dyes_5 s here h hs hr hh hb
    · exact dbad_5 s here h hs hr hb
  | 6, _, hr =>
    by_cases hb : (topT (X.map Prod.fst)).k = 2
    · exact dyes_6 s here h hs hr hh hb
    · exact dbad_6 s here h hs hr hb
  | 7, _, hr =>
    by_cases hb : (topT (X.map Prod.fst)).k = 3
    · exact dyes_7 s here h hs hr hh hb
    · exact dbad_7 s here h hs hr hb
  | 8, _, hr => exact dword_8 s here h hs hr hh
  | 9, _, hr => exact dword_9 s here h hs hr hh
  | 10, _, hr =>
    by_cases hb : (topT (X.map Prod.fst)).k = 4
    · exact dyes_10 s here h hs hr hh hb
    · exact dbad_10 s here h hs hr hb
  | 11, _, hr =>
    by_cases hb : (topT (X.map Prod.fst)).k = 4
    · exact dyes_11 s here h hs hr hh hb
    · exact dbad_11 s here h hs hr hb
  | 12, _, hr => exact dword_12 s here h hs hr hh
  | 13, _, hr => exact dword_13 s here h hs hr hh
  | 14, _, hr =>
    by_cases hb : (topT (X.map Prod.fst)).k = 5
    · exact dyes_14 s here h hs hr hh hb
    · exact dbad_14 s here h hs hr hb
  | 15, _, hr =>
    by_cases hb : (topT (X.map Prod.fst)).k = 6
    · exact dyes_15 s here h hs hr hh hb
    · exact dbad_15 s here h hs hr hb
  | 16, _, hr =>
    by_cases hb : (topT (X.map Prod.fst)).k = 5
    · exact dyes_16 s here h hs hr hh hb
    · exact dbad_16 s here h hs hr hb
  | 17, _, hr => exact dword_17 s here h hs hr
  | k + 18, h, _ => exact absurd h (by omega)
theorem Dl.keep {s : Nat → Prop} (h : Dl w F own v X) (hO : Onl s w w') (hs : ∀ k, (k = F ∨ own k) → ¬ s k) : Dl w' F own v X :=
  ⟨hO.bk h.bk (hs F (.inl rfl)), h.rw.frame hO (fun k hk => hs k (.inr hk)), h.out, fun k hk => Nat.lt_of_lt_of_le (h.old k hk) hO.size, h.len, h.more, h.low⟩
theorem ddone_dl {st : St} {e : Ending} {i : Nat} (h : Dl w F own v X) (hd : Ddone w w' F own st e) (ho : Ord st.L i) (hi : i ≤ 50000) :
    ∃ va v' X', e = .returned (.tuple #[va, .int .i64 st.f]) ∧ w'.ownsRow w.heap.size 54 4 va st.acts.length (actC st.acts) ∧ Dl w' F (ownOf v' X') v' X' ∧ X'.map Prod.fst = st.L ∧ Onl (fun k => k = F ∨ own k ∨ w.heap.size ≤ k) w w' ∧ ∀ k, ownOf v' X' k → own k ∨ w.heap.size ≤ k := by
  obtain ⟨va, v', X', he, hrow, hF, hR, hL, hO⟩ := hd
  refine ⟨va, v', X', he, hrow, ⟨hF, hR.least, fun hk => ?_, fun k hk => hR.least_lt hk, ?_, fun x hx => ?_, fun x hx => ?_⟩, hL, hO, fun k hk => hR.of_least hk⟩
  · rcases hR.of_least hk with h1 | h1
    · exact h.out h1
    · have := h.bk.lt; omega
  · have := ho.len; rw [← hL, List.length_map] at this; exact this
  · have := ho.more x.1 (by rw [← hL]; exact List.mem_map_of_mem hx); omega
  · exact ho.low x.1 (by rw [← hL, List.head?_map, hx]; rfl)
/-- a flow of the document's, whose blocks are told by what it holds -/
structure Dw (w : World) (F : Nat) (v : Value) (X : List (Th × Value)) (L : List Th) (i B : Nat) : Prop where
  dl : Dl w F (ownOf v X) v X
  th : X.map Prod.fst = L
  ord : Ord L i
  ge : B ≤ F ∧ ∀ k, ownOf v X k → B ≤ k
theorem Dw.keep {L : List Th} {i B : Nat} {s : Nat → Prop} (h : Dw w F v X L i B) (hO : Onl s w w') (hs : ∀ k, (k = F ∨ ownOf v X k) → ¬ s k) : Dw w' F v X L i B := ⟨h.dl.keep hO hs, h.th, h.ord, h.ge⟩
theorem Dw.lt {L : List Th} {i B : Nat} (h : Dw w F v X L i B) {k : Nat} (hk : k = F ∨ ownOf v X k) : k < w.heap.size := hk.elim (fun e => e ▸ h.dl.bk.lt) (fun h1 => h.dl.old k h1)
theorem Dw.mono {L : List Th} {i j B : Nat} (h : Dw w F v X L i B) (hij : i ≤ j) : Dw w F v X L j B := ⟨h.dl, h.th, h.ord.mono hij, h.ge⟩
theorem Fw.mono {L : List Th} {i j B : Nat} (h : Fw w F v X L i B) (hij : i ≤ j) : Fw w F v X L j B := ⟨h.fl, h.th, h.ord.mono hij, h.ge⟩
theorem word_dw {L : List Th} {i B : Nat} (h : Dw w F v X L i B) (s : ByteArray) (here : Int) (hs : s.size ≤ maxLen) (hh : -9223372036854775808 ≤ here ∧ here ≤ 9223372036854775807) (hi : i < 50000) (st : St) (hst : Go.Proofs.Ytmfffaocmboelaa.step L (row s) here = st) :
    Calls Try.prog 15 #[.pointer (some ⟨F, 0, none⟩), .string s, .int .i64 here] w fun e w' => ∃ va v' X', e = .returned (.tuple #[va, .int .i64 st.f]) ∧ w'.ownsRow w.heap.size 54 4 va st.acts.length (actC st.acts) ∧ Dw w' F v' X' st.L (i + 1) B ∧ Onl (Own F v X w.heap.size) w w' ∧ ∀ k, ownOf v' X' k → ownOf v X k ∨ w.heap.size ≤ k := by
  subst hst
  have ho := h.ord.step (row s) here
  refine (dword_any s here h.dl hs hh).mono fun e w' hd => ?_
  rw [h.th] at hd
  obtain ⟨va, v', X', he, hrow, hF, hL, hO, hown⟩ := ddone_dl h.dl hd ho (by omega)
  have hz := h.dl.bk.lt
  exact ⟨va, v', X', he, hrow, ⟨hF, hL, ho, h.ge.1, fun k hk => (hown k hk).elim (h.ge.2 k) (fun h1 => by have := h.ge.1; omega)⟩, hO, hown⟩
theorem Dw.below {L : List Th} {i B : Nat} (h : Dw w F v X L i B) (hO : Onl (Own F v X w.heap.size) w w') : Below B w w' :=
  hO.below (by have := h.ge.1; have := h.dl.bk.lt; omega) (fun k hk => by
    rcases hk with rfl | hk | hk
    · exact h.ge.1
    · exact h.ge.2 k hk
    · have := h.ge.1; have := h.dl.bk.lt; omega)
/-- what is no thing, no flow and no place of it is not a flow's -/
theorem Dw.not_row {L : List Th} {i B base n size : Nat} {e : TypeId} {va : Value} {xs : List Value} (h : Dw w F v X L i B) (hr : w.ownsRow base e size va n xs) (h1 : 45 ≠ e) (h2 : 70 ≠ e) (h3 : 3 ≠ e) : ∀ g, va.ownBlock = some g → ¬ (g = F ∨ ownOf v X g) := fun g hg hk => by
  rcases hk with rfl | hk
  · exact h.dl.bk.far hr h1 hg.symm
  · rcases hk with hk | ⟨x, hx, hk⟩
    · exact row_far h.dl.rw.row hr h2 hk hg
    · exact row_far (h.dl.rw.more x hx) hr h3 hk hg
theorem Fw.not_row {L : List Th} {i B base n size : Nat} {e : TypeId} {va : Value} {xs : List Value} (h : Fw w F v X L i B) (hr : w.ownsRow base e size va n xs) (h1 : 57 ≠ e) (h2 : 62 ≠ e) (h3 : 3 ≠ e) : ∀ g, va.ownBlock = some g → ¬ (g = F ∨ ownOf v X g) := fun g hg hk => by
  rcases hk with rfl | hk
  · exact h.fl.bk.far hr h1 hg.symm
  · rcases hk with hk | ⟨x, hx, hk⟩
    · exact row_far h.fl.rw.row hr h2 hk hg
    · exact row_far (h.fl.rw.more x hx) hr h3 hk hg
theorem Dw.not_bk {L : List Th} {i B q : Nat} {e : TypeId} {vs : Array Value} (h : Dw w F v X L i B) (hr : Bk w q e vs) (h1 : e ≠ 45) (h2 : e ≠ 70) (h3 : e ≠ 3) : ¬ (q = F ∨ ownOf v X q) := fun hk => by
  rcases hk with hk | hk
  · exact hr.ne h.dl.bk h1 hk
  · rcases hk with hk | ⟨x, hx, hk⟩
    · exact hr.far h.dl.rw.row h2 hk.symm
    · exact hr.far (h.dl.rw.more x hx) h3 hk.symm
theorem Fw.not_bk {L : List Th} {i B q : Nat} {e : TypeId} {vs : Array Value} (h : Fw w F v X L i B) (hr : Bk w q e vs) (h1 : e ≠ 57) (h2 : e ≠ 62) (h3 : e ≠ 3) : ¬ (q = F ∨ ownOf v X q) := fun hk => by
  rcases hk with hk | hk
  · exact hr.ne h.fl.bk h1 hk
  · rcases hk with hk | ⟨x, hx, hk⟩
    · exact hr.far h.fl.rw.row h2 hk.symm
    · exact hr.far (h.fl.rw.more x hx) h3 hk.symm
end
end Go.Proofs.Ytmfffaocmboelaa