import Derived.Test.YtmfffaocmboelaaFwI
namespace Go.Proofs.Ytmfffaocmboelaa
open Go.RowKit
set_option linter.unusedVariables false
set_option linter.unusedSimpArgs false
/-! branch and count, all their words under one law -/
/-- what lies where a word begins to be done -/
structure Rd (w : World) (b : Nat) (here : Int) (T : Addr) (own : Nat → Prop) (A : Option Addr) (c : Nat) (X : List (Th × Value)) : Prop where
  wk : Wk w b (.slice none 0 0) [] here here T (.string ⟨#[]⟩) (.int .i64 0) (.int .i64 0) (.slice none 0 0)
  rw : Rws w own (.slice A X.length c) X
  own : ∀ k, own k → k < b
  top : X ≠ [] → ∃ g, A = some ⟨g, 0, none⟩ ∧ T = ⟨g, (X.length - 1) * 4, none⟩
  len : X.length ≤ 1000
  more : ∀ x ∈ X, x.1.more.length ≤ 100000
  low : ∀ x, X.head? = some x → x.1.k ≠ 6
/-- what is opened lies in the word's own cells -/
def Nx (w : World) (b : Nat) (x : Th) (m0 m1 m2 m3 : Value) : Prop :=
  m0 = .string (kn x.k) ∧ m1 = .int .i64 x.at_ ∧ m2 = .int .i64 x.tgt ∧ w.ownsRow b 3 1 m3 x.more.length (i64s x.more)
def Res (w w' : World) (b : Nat) (here : Int) (T : Addr) (own : Nat → Prop) (A : Option Addr) (c : Nat) (e : Ef) : Prop :=
  ∃ v' m0 m1 m2 m3 X', Wk w' b v' e.acts here e.bh T m0 m1 m2 m3 ∧ Rws w' (fun k => own k ∨ b ≤ k) (.slice A X'.length c) X' ∧ X'.map Prod.fst = e.L ∧ (e.how = 1 → Nx w' b e.nx m0 m1 m2 m3) ∧ (e.how = 1 ∨ e.how = 3 → Rws w' own (.slice A X'.length c) X') ∧ Onl (fun k => own k ∨ b ≤ k) w w'
section
variable {w w' w1 : World} {b g : Nat} {here : Int} {T : Addr} {own : Nat → Prop} {A : Option Addr} {c : Nat} {X : List (Th × Value)}
theorem topT_push (Y : List (Th × Value)) (x : Th × Value) : topT ((Y ++ [x]).map Prod.fst) = x.1 := by simp [topT]
theorem Rd.split (h : Rd w b here T own A c X) (hX : X ≠ []) : ∃ g Y x, X = Y ++ [x] ∧ A = some ⟨g, 0, none⟩ ∧ T = ⟨g, Y.length * 4, none⟩ ∧ g < b ∧ Tp w g (Y.length * 4) (kn x.1.k) x.1.at_ x.1.tgt x.2 ∧ topT (X.map Prod.fst) = x.1 := by
  obtain ⟨g, hA, hT⟩ := h.top hX
  obtain ⟨Y, x, rfl⟩ : ∃ Y x, X = Y ++ [x] := ⟨X.dropLast, X.getLast hX, (List.dropLast_concat_getLast hX).symm⟩
  subst hA
  have hl : (Y ++ [x]).length - 1 = Y.length := by simp
  rw [hl] at hT
  exact ⟨g, Y, x, rfl, rfl, hT, h.own g (h.rw.own1 g rfl), h.rw.tp Y.length x (by simp), topT_push Y x⟩
theorem Rd.bel (h : Rd w b here T own A c X) (hB : Below b w w') : Rws w' own (.slice A X.length c) X :=
  h.rw.frame (Onl.of_below (s := fun k => b ≤ k) hB (fun k _ hk => by omega)) (fun k hk => by have := h.own k hk; omega)
theorem bel_onl (hB : Below b w w') : Onl (fun k => own k ∨ b ≤ k) w w' := Onl.of_below hB (fun k _ hn => by have : ¬ b ≤ k := fun h => hn (.inr h); omega)
theorem Rd.same {v' m0 m1 m2 m3 : Value} {acts : List Ac} {bh : Int} {how : Nat} {nx : Th} (h : Rd w b here T own A c X) (hB : Below b w w') (hW : Wk w' b v' acts here bh T m0 m1 m2 m3) (hN : how = 1 → Nx w' b nx m0 m1 m2 m3) : Res w w' b here T own A c ⟨how, acts, bh, X.map Prod.fst, nx⟩ :=
  ⟨v', m0, m1, m2, m3, X, hW, (h.bel hB).mono (fun _ h => .inl h), rfl, hN, fun _ => h.bel hB, bel_onl hB⟩
theorem Rd.put {Y : List (Th × Value)} {x : Th × Value} {v' m0 m1 m2 m3 : Value} {acts : List Ac} {bh : Int} (h : Rd w b here ⟨g, Y.length * 4, none⟩ own (some ⟨g, 0, none⟩) c (Y ++ [x])) (hB : Below b w w1) (hg : g < b) (hW : Wk w1 b v' acts here bh ⟨g, Y.length * 4, none⟩ m0 m1 m2 m3) (k : Nat) (a tg : Int) :
    Res w (set4 w1 g (Y.length * 4) (.string (kn k)) (.int .i64 a) (.int .i64 tg) (.slice none 0 0)) b here ⟨g, Y.length * 4, none⟩ own (some ⟨g, 0, none⟩) c ⟨2, acts, bh, ((Y ++ [x]).map Prod.fst).dropLast ++ [⟨k, a, tg, []⟩], th0⟩ := by
  have ho : own g := h.rw.own1 g rfl
  refine ⟨v', m0, m1, m2, m3, Y ++ [(⟨k, a, tg, []⟩, .slice none 0 0)], ?_, ((h.bel hB).top k a tg).mono (fun _ h => .inl h), by simp, fun e => (by cases e), fun e => (by rcases e with e | e <;> cases e), ?_⟩
  · exact hW.onl (Onl.set4 (g := g) (o := Y.length * 4) (Onl.refl (fun k => k = g) w1) rfl _ _ _ _) (fun k hk => by omega)
  · exact (bel_onl hB).set4 (.inl ho) _ _ _ _
theorem Rd.ne (h : Rd w b here T own A c X) {k : Nat} (hk : k ≠ 0) (hw : (topT (X.map Prod.fst)).k = k) : X ≠ [] := by
  rintro rfl
  exact hk hw.symm
theorem nx_nil {w : World} {b k : Nat} {a tg : Int} : Nx w b ⟨k, a, tg, []⟩ (.string (kn k)) (.int .i64 a) (.int .i64 tg) (.slice none 0 0) := ⟨rfl, rfl, rfl, World.ownsRow_nil _ _ _ _⟩
theorem br_eff (r : Nat) (hr : r < 8) (h : Rd w b here T own A c X) (hw : wantK r = 0 ∨ (topT (X.map Prod.fst)).k = wantK r) :
    Calls Try.prog 19 #[.pointer (some ⟨b, 0, none⟩), .string (nm r)] w fun e w' => e = .returned (.int .i64 ((eff (X.map Prod.fst) r here).how : Nat)) ∧ Res w w' b here T own A c (eff (X.map Prod.fst) r here) := by
  match r, hr with
  | 0, _ => exact (br_if h.wk rfl).mono fun e w' ⟨he, v', hW, hB⟩ => ⟨he, h.same hB hW (fun _ => nx_nil)⟩
  | 3, _ => exact (br_begin h.wk).mono fun e w' ⟨he, hW, hB⟩ => ⟨he, h.same hB hW (fun _ => nx_nil)⟩
  | 1, _ =>
    obtain ⟨g, Y, x, rfl, rfl, rfl, hg, hT, ht⟩ := h.split (h.ne (by decide) (hw.resolve_left (by decide)))
    exact (br_else h.wk hT hg rfl).mono fun e w' ⟨he, v', w1, hW, hB, hw'⟩ => ⟨he, by rw [hw', ← ht] at *; exact h.put hB hg hW 1 here 0⟩
  | 6, _ =>
    obtain ⟨g, Y, x, rfl, rfl, rfl, hg, hT, ht⟩ := h.split (h.ne (by decide) (hw.resolve_left (by decide)))
    exact (br_while h.wk hT hg rfl).mono fun e w' ⟨he, v', w1, hW, hB, hw'⟩ => ⟨he, by rw [hw', ← ht] at *; exact h.put hB hg hW 3 _ here⟩
  | 2, _ =>
    obtain ⟨g, Y, x, rfl, rfl, rfl, hg, hT, ht⟩ := h.split (h.ne (by decide) (hw.resolve_left (by decide)))
    exact (br_then h.wk hT hg).mono fun e w' ⟨he, v', hW, hB⟩ => ⟨he, by rw [← ht] at hW; exact h.same hB hW (fun e => by cases e)⟩
  | 4, _ =>
    obtain ⟨g, Y, x, rfl, rfl, rfl, hg, hT, ht⟩ := h.split (h.ne (by decide) (hw.resolve_left (by decide)))
    exact (br_again h.wk hT hg rfl).mono fun e w' ⟨he, v', hW, hB⟩ => ⟨he, by rw [← ht] at hW; exact h.same hB hW (fun e => by cases e)⟩
  | 5, _ =>
    obtain ⟨g, Y, x, rfl, rfl, rfl, hg, hT, ht⟩ := h.split (h.ne (by decide) (hw.resolve_left (by decide)))
    exact (br_until h.wk hT hg rfl).mono fun e w' ⟨he, v', hW, hB⟩ => ⟨he, by rw [← ht] at hW; exact h.same hB hW (fun e => by cases e)⟩
  | 7, _ =>
    obtain ⟨g, Y, x, rfl, rfl, rfl, hg, hT, ht⟩ := h.split (h.ne (by decide) (hw.resolve_left (by decide)))
    exact (br_repeat h.wk hT hg rfl).mono fun e w' ⟨he, v', hW, hB⟩ => ⟨he, by rw [← ht] at hW; exact h.same hB hW (fun e => by cases e)⟩
  | k + 8, h => exact absurd h (by omega)
theorem getD_th (X : List (Th × Value)) (j : Nat) (x : Th × Value) (h : X[j]? = some x) : (X.map Prod.fst).getD j th0 = x.1 := by
  rw [List.getD_eq_getElem?_getD, List.getElem?_map, h]; rfl
theorem set_th (X : List (Th × Value)) (j : Nat) (t : Th) (m : Value) : (X.set j (t, m)).map Prod.fst = (X.map Prod.fst).set j t := by
  rw [List.map_set]
theorem ct_eff (r : Nat) (hr : 8 ≤ r) (hr2 : r < 17) (h : Rd w b here T own A c X) (hw : wantK r = 0 ∨ (topT (X.map Prod.fst)).k = wantK r) :
    Calls Try.prog 20 #[.pointer (some ⟨b, 0, none⟩), .string (nm r), .slice A X.length c] w fun e w' => e = .returned (.int .i64 ((eff (X.map Prod.fst) r here).how : Nat)) ∧ Res w w' b here T own A c (eff (X.map Prod.fst) r here) := by
  obtain ⟨k, rfl⟩ : ∃ k, r = k + 8 := ⟨r - 8, by omega⟩
  have hk : k < 9 := by omega
  clear hr hr2
  match k, hk with
  | 0, _ => exact (ct_do h.wk rfl).mono fun e w' ⟨he, v', hW, hB⟩ => ⟨he, h.same hB hW (fun _ => nx_nil)⟩
  | 1, _ =>
    refine (ct_qdo h.wk rfl).mono fun e w' ⟨he, v', q, hW, hq, hQ, hB⟩ => ⟨he, h.same hB hW (fun _ => ⟨rfl, rfl, rfl, rfl, .inr ⟨q, 1, _, rfl, ?_, hQ, Nat.le_refl _, by decide, rfl, rfl⟩⟩)⟩
    have := h.wk.bk.lt; omega
  | 2, _ =>
    obtain ⟨g, Y, x, rfl, rfl, rfl, hg, hT, ht⟩ := h.split (h.ne (by decide) (hw.resolve_left (by decide)))
    exact (ct_loop h.wk hT hg rfl).mono fun e w' ⟨he, v', hW, hB⟩ => ⟨he, by rw [← ht] at hW; exact h.same hB hW (fun e => by cases e)⟩
  | 3, _ =>
    obtain ⟨g, Y, x, rfl, rfl, rfl, hg, hT, ht⟩ := h.split (h.ne (by decide) (hw.resolve_left (by decide)))
    exact (ct_ploop h.wk hT hg rfl).mono fun e w' ⟨he, v', hW, hB⟩ => ⟨he, by rw [← ht] at hW; exact h.same hB hW (fun e => by cases e)⟩
  | 4, _ =>
    obtain ⟨g, hA⟩ : ∃ g, 0 < X.length → A = some ⟨g, 0, none⟩ := by
      by_cases hX : X = []
      · exact ⟨0, fun h => by rw [hX] at h; cases h⟩
      · obtain ⟨g, hg, _⟩ := h.top hX
        exact ⟨g, fun _ => hg⟩
    refine (ct_leave h.wk rfl rfl A hA h.rw h.own h.len h.more).mono fun e w' hh => ?_
    rcases hh with ⟨hd, he, hw'⟩ | ⟨j, x, v', m', hd, hx, he, hW, hR, hO⟩
    · have e1 : eff (X.map Prod.fst) 12 here = ⟨0, [], here, X.map Prod.fst, th0⟩ := by
        show (match doFrom (X.map Prod.fst) (X.map Prod.fst).length with | none => _ | some j => _) = _
        rw [List.length_map, hd]
      rw [hw']
      show _ ∧ Res w w b here T own A c (eff (X.map Prod.fst) 12 here)
      refine ⟨?_, by rw [e1]; exact h.same (Below.refl _ _) h.wk (fun e => by cases e)⟩
      show e = .returned (.int .i64 ((eff (X.map Prod.fst) 12 here).how : Nat))
      rw [e1]; exact he
    · have e1 : eff (X.map Prod.fst) 12 here = ⟨2, [⟨false, here, 10, 0⟩, ⟨false, nxt here, 4, 0⟩], nxt (nxt here), (X.map Prod.fst).set j (x.1.plus (nxt here)), th0⟩ := by
        show (match doFrom (X.map Prod.fst) (X.map Prod.fst).length with | none => _ | some j => _) = _
        rw [List.length_map, hd]
        simp only [getD_th X j x hx]
      show e = .returned (.int .i64 ((eff (X.map Prod.fst) 12 here).how : Nat)) ∧ Res w w' b here T own A c (eff (X.map Prod.fst) 12 here)
      rw [e1]
      exact ⟨he, v', _, _, _, _, _, hW, hR, set_th X j _ _, fun e => (by cases e), fun e => (by rcases e with e | e <;> cases e), hO⟩
  | 5, _ => exact (ct_case h.wk).mono fun e w' ⟨he, hW, hB⟩ => ⟨he, h.same hB hW (fun _ => nx_nil)⟩
  | 6, _ => exact (ct_of h.wk rfl rfl rfl rfl).mono fun e w' ⟨he, v', hW, hB⟩ => ⟨he, h.same hB hW (fun _ => nx_nil)⟩
  | 7, _ =>
    have htk : (topT (X.map Prod.fst)).k = 6 := hw.resolve_left (by decide)
    have hlow := h.low
    obtain ⟨g, Y, x, rfl, rfl, rfl, hg, hT, ht⟩ := h.split (h.ne (by decide) (hw.resolve_left (by decide)))
    rw [ht] at htk
    have hY : Y ≠ [] := by
      rintro rfl
      exact hlow x rfl htk
    have hYl : 0 < Y.length := List.length_pos_iff.2 hY
    obtain ⟨u, hu⟩ : ∃ u, (Y ++ [x])[Y.length - 1]? = some u := ⟨_, List.getElem?_eq_getElem (by simp; omega)⟩
    refine (ct_endof (i := Y.length - 1) h.wk hT hg rfl h.rw (by simp; omega) (by have := h.len; simp at this; omega) hu (h.more u (List.mem_of_getElem? hu)) h.own).mono fun e w' ⟨he, v', m', hW, hR, hO⟩ => ⟨he, ?_⟩
    refine ⟨v', _, _, _, _, _, by rw [← ht] at hW; exact hW, hR, ?_, fun e => (by cases e), fun e => (by rcases e with e | e <;> cases e), hO⟩
    rw [set_th]
    show _ = ((Y ++ [x]).map Prod.fst).set (((Y ++ [x]).map Prod.fst).length - 2) ((((Y ++ [x]).map Prod.fst).getD (((Y ++ [x]).map Prod.fst).length - 2) th0).plus here)
    have hl : ((Y ++ [x]).map Prod.fst).length - 2 = Y.length - 1 := by simp
    rw [hl, getD_th _ _ u hu]
  | 8, _ => exact (ct_endcase h.wk rfl).mono fun e w' ⟨he, v', hW, hB⟩ => ⟨he, h.same hB hW (fun e => by cases e)⟩
  | k + 9, h => exact absurd h (by omega)
end
end Go.Proofs.Ytmfffaocmboelaa
