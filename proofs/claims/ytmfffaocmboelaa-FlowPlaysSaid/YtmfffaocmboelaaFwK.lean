import Derived.Test.YtmfffaocmboelaaFwJ
import Derived.WalkMore
namespace Go.Proofs.Ytmfffaocmboelaa
open Go.RowKit
set_option linter.unusedVariables false
set_option linter.unusedSimpArgs false
/-! a scope out of which at most one goto leads, to a label ahead -/
def Exit.once (P : Program) (R : Nat → Option Code) (Q : Exit → Act → World → Prop) : Exit → Act → World → Prop
  | .goto l, a, w => ∃ rest, R l = some rest ∧ rest.wp P (Exit.noGoto Q) a w
  | e, a, w => Q e a w
section
variable {P : Program} {a : Act} {w : World} {Q : Exit → Act → World → Prop} {R : Nat → Option Code}
@[go_sem] theorem Exit.once_normal : Exit.once P R Q .normal a w = Q .normal a w := rfl
@[go_sem] theorem Exit.once_ret : Exit.once P R Q .ret a w = Q .ret a w := rfl
theorem wp_scope_once {c : Code} (hR : ∀ l, R l = findLabel c l) (first : c.wp P (Exit.once P R Q) a w) : (Code.scope c).wp P Q a w := by
  intro b k cs
  obtain ⟨e, a₁, w₁, hq, harr⟩ := first b (.inScope c :: k) cs
  cases e with
  | normal => exact ⟨.normal, a₁, w₁, hq, .head step_scope (Steps.trans harr (.one step_inScope))⟩
  | exit id => exact ⟨.exit id, a₁, w₁, hq, fun k' hk => .head step_scope (harr k' (by simp [exitTo, hk]))⟩
  | goto l =>
    obtain ⟨rest, hf, hr⟩ := hq
    rw [hR] at hf
    have hg : gotoIn l (.inScope c :: k) = some (.code rest :: .inScope c :: k) := by simp [gotoIn, hf]
    obtain ⟨e, a₂, w₂, hq, harr₂⟩ := hr b (.inScope c :: k) cs
    cases e with
    | normal => exact ⟨.normal, a₂, w₂, hq, .of_steps (.head step_scope (harr _ hg)) (Steps.trans harr₂ (.one step_inScope))⟩
    | exit id => exact ⟨.exit id, a₂, w₂, hq, fun k' hk => Steps.trans (.head step_scope (harr _ hg)) (harr₂ k' (by simp [exitTo, hk]))⟩
    | goto l => exact hq.elim
    | ret => exact ⟨_, a₂, w₂, hq, .of_steps (.head step_scope (harr _ hg)) harr₂⟩
    | panic ch => exact ⟨_, a₂, w₂, hq, .of_steps (.head step_scope (harr _ hg)) harr₂⟩
    | outgrown => exact ⟨_, a₂, w₂, hq, .of_steps (.head step_scope (harr _ hg)) harr₂⟩
  | ret => exact ⟨_, a₁, w₁, hq, .of_steps (.one step_scope) harr⟩
  | panic ch => exact ⟨_, a₁, w₁, hq, .of_steps (.one step_scope) harr⟩
  | outgrown => exact ⟨_, a₁, w₁, hq, .of_steps (.one step_scope) harr⟩
theorem wp_scope_once2 {c rest0 rest1 : Code} (h0 : findLabel c 0 = some rest0) (h1 : findLabel c 1 = some rest1) (first : ∀ R, R 0 = some rest0 → R 1 = some rest1 → c.wp P (Exit.once P R Q) a w) : (Code.scope c).wp P Q a w :=
  wp_scope_once (R := findLabel c) (fun _ => rfl) (first _ h0 h1)
end
/-- a flow in memory -/
structure Fl (w : World) (F : Nat) (own : Nat → Prop) (v : Value) (X : List (Th × Value)) : Prop where
  bk : Bk w F 57 #[v]
  rw : Rws w own v X
  out : ¬ own F
  old : ∀ k, own k → k < w.heap.size
  len : X.length ≤ 16
  more : ∀ x ∈ X, x.1.more.length ≤ 50000
  low : ∀ x, X.head? = some x → x.1.k ≠ 6
section
variable {w w' : World} {F : Nat} {own : Nat → Prop} {v : Value} {X : List (Th × Value)}
theorem nm_ne (r : Nat) (hr : r < 17) : (nm r).toList.isEmpty = false := by
  have : ∀ n : Fin 17, (nm n.val).toList.isEmpty = false := by decide +kernel
  exact this ⟨r, hr⟩
theorem rd_of {W : World} {b c : Nat} {A : Option Addr} {T : Addr} {here : Int} (h : Fl w F own v X) (hv : v = .slice A X.length c) (hB : Below w.heap.size w W) (hb : w.heap.size ≤ b) (hK : Bk W b 64 #[.slice none 0 0, .int .i64 here, .int .i64 here, .pointer (some T), .string ⟨#[]⟩, .int .i64 0, .int .i64 0, .slice none 0 0]) (hT : X ≠ [] → ∃ g, A = some ⟨g, 0, none⟩ ∧ T = ⟨g, (X.length - 1) * 4, none⟩) : Rd W b here T own A c X := by
  subst hv
  refine ⟨⟨hK, World.ownsRow_nil _ _ _ _⟩, h.rw.frame (Onl.of_below (s := fun k => w.heap.size ≤ k) hB (fun k _ hk => by omega)) (fun k hk => by have := h.old k hk; omega), fun k hk => by have := h.old k hk; omega, hT, by have := h.len; omega, fun x hx => by have := h.more x hx; omega, h.low⟩
theorem kn_inj (j k : Nat) (hj : j ≠ 0) (hj2 : j ≤ 6) (h : kn k = kn j) : k = j := by
  have h1 : ∀ j : Fin 7, j.val ≠ 0 → ∀ k : Fin 7, kn k.val = kn j.val → k.val = j.val := by decide +kernel
  by_cases hk : k < 7
  · exact h1 ⟨j, by omega⟩ hj ⟨k, hk⟩ h
  · obtain ⟨i, rfl⟩ : ∃ i, k = i + 7 := ⟨k - 7, by omega⟩
    have h2 : ∀ j : Fin 7, j.val ≠ 0 → (⟨#[]⟩ : ByteArray) ≠ kn j.val := by decide +kernel
    exact absurd h (h2 ⟨j, by omega⟩ hj)
theorem wantK_le (r : Nat) : wantK r ≤ 6 := by
  unfold wantK; split <;> decide
theorem kn_ne (j : Nat) (hj : j ≠ 0) (hj2 : j ≤ 6) : (kn j).toList.isEmpty = false := by
  have h1 : ∀ j : Fin 7, j.val ≠ 0 → (kn j.val).toList.isEmpty = false := by decide +kernel
  exact h1 ⟨j, by omega⟩ hj
set_option maxHeartbeats 1000000 in
set_option maxRecDepth 100000 in
theorem word_17 (s : ByteArray) (here : Int) (hs : s.size ≤ maxLen) (hr : row s = 17) :
    Calls Try.prog 9 #[.pointer (some ⟨F, 0, none⟩), .string s, .int .i64 here] w fun e w' => e = .returned (.tuple #[.slice none 0 0, .int .i64 8]) ∧ Below w.heap.size w w' := by
  have hkn := known_any s w hs
  rw [hr, show nm 17 = ⟨#[]⟩ from rfl] at hkn
  replace hkn := Lib.hid hkn
  go_enter Try.func9, Try.ntmps9
  go_wp2_with (fail)
  refine wp_scope_once2 rfl rfl ?_
  intro R hl0 hl1
  go_wp2_with (fail)
  refine hkn.out.mono ?_
  rintro e w1 ⟨rfl, hb1⟩
  go_wp2_with (fail)
  rw [Exit.once_ret]
  go_returns
  exact ⟨rfl, hb1⟩
/-- what a word leaves -/
def Done (w w' : World) (F : Nat) (own : Nat → Prop) (st : St) (e : Ending) : Prop :=
  ∃ va v' X', e = .returned (.tuple #[va, .int .i64 st.f]) ∧ w'.ownsRow w.heap.size 36 4 va st.acts.length (actC st.acts) ∧ Bk w' F 57 #[v'] ∧ Rws w' (fun k => own k ∨ w.heap.size ≤ k) v' X' ∧ X'.map Prod.fst = st.L ∧ Onl (fun k => k = F ∨ own k ∨ w.heap.size ≤ k) w w'
theorem done_bel {st : St} {f : Int} (h : Fl w F own v X) (hB : Below w.heap.size w w') (hst : st = ⟨f, [], X.map Prod.fst⟩) : Done w w' F own st (.returned (.tuple #[.slice none 0 0, .int .i64 f])) := by
  subst hst
  exact ⟨_, v, X, rfl, World.ownsRow_nil _ _ _ _, h.bk.kept hB h.bk.lt, (h.rw.frame (Onl.of_below (s := fun k => w.heap.size ≤ k) hB (fun k _ hk => by omega)) (fun k hk => by have := h.old k hk; omega)).mono (fun _ h => .inl h), rfl, Onl.of_below hB (fun k hk _ => hk)⟩
theorem topT_at {m n : Nat} {x : Th × Value} (hn : X.length = n) (hm : n = m + 1) (hx : X[m]? = some x) : topT (X.map Prod.fst) = x.1 := by
  unfold topT
  rw [List.getLastD_eq_getLast?, List.getLast?_eq_getElem?, List.getElem?_map, List.length_map, hn, hm, show m + 1 - 1 = m by omega, hx]; rfl
end
end Go.Proofs.Ytmfffaocmboelaa
