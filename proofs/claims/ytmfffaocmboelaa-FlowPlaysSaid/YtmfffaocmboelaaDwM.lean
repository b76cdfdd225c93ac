import Derived.Test.YtmfffaocmboelaaDwL
namespace Go.Proofs.Ytmfffaocmboelaa
open Go.RowKit
set_option linter.unusedVariables false
set_option linter.unusedSimpArgs false
/-! four flows side by side: two of the program's, two of the document's -/
def So (F : Nat) (v : Value) (X : List (Th × Value)) (k : Nat) : Prop := k = F ∨ ownOf v X k
structure Qf (w : World) (F : Nat) (v : Value) (X : List (Th × Value)) (L : List Th) (G : Nat) (u : Value) (Y : List (Th × Value)) (M : List Th) (P : Nat) (a : Value) (Z : List (Th × Value)) (L' : List Th) (Q : Nat) (b : Value) (T : List (Th × Value)) (M' : List Th) (i B : Nat) : Prop where
  f : Fw w F v X L i B
  g : Fw w G u Y M i B
  p : Dw w P a Z L' i B
  q : Dw w Q b T M' i B
  s1 : ∀ k, So F v X k → ¬ So G u Y k
  s2 : ∀ k, So F v X k → ¬ So P a Z k
  s3 : ∀ k, So F v X k → ¬ So Q b T k
  s4 : ∀ k, So G u Y k → ¬ So P a Z k
  s5 : ∀ k, So G u Y k → ¬ So Q b T k
  s6 : ∀ k, So P a Z k → ¬ So Q b T k
section
variable {w w' : World} {F G P Q i B : Nat} {v u a b : Value} {X Y Z T : List (Th × Value)} {L M L' M' : List Th}
theorem Qf.swap (h : Qf w F v X L G u Y M P a Z L' Q b T M' i B) : Qf w G u Y M F v X L Q b T M' P a Z L' i B :=
  ⟨h.g, h.f, h.q, h.p, fun k h1 h2 => h.s1 k h2 h1, h.s5, h.s4, h.s3, h.s2, fun k h1 h2 => h.s6 k h2 h1⟩
theorem Qf.keep {s : Nat → Prop} (h : Qf w F v X L G u Y M P a Z L' Q b T M' i B) (hO : Onl s w w') (h1 : ∀ k, So F v X k → ¬ s k) (h2 : ∀ k, So G u Y k → ¬ s k) (h3 : ∀ k, So P a Z k → ¬ s k) (h4 : ∀ k, So Q b T k → ¬ s k) : Qf w' F v X L G u Y M P a Z L' Q b T M' i B :=
  ⟨h.f.keep hO h1, h.g.keep hO h2, h.p.keep hO h3, h.q.keep hO h4, h.s1, h.s2, h.s3, h.s4, h.s5, h.s6⟩
theorem Qf.kept (h : Qf w F v X L G u Y M P a Z L' Q b T M' i B) (hB : Below w.heap.size w w') : Qf w' F v X L G u Y M P a Z L' Q b T M' i B :=
  h.keep (s := fun k => w.heap.size ≤ k) (Onl.of_below hB (fun k _ hk => by omega)) (fun k hk h1 => by have := h.f.lt hk; omega) (fun k hk h1 => by have := h.g.lt hk; omega) (fun k hk h1 => by have := h.p.lt hk; omega) (fun k hk h1 => by have := h.q.lt hk; omega)
theorem Qf.draws (h : Qf w F v X L G u Y M P a Z L' Q b T M' i B) (n : Nat) : Qf (w.drewN n) F v X L G u Y M P a Z L' Q b T M' i B := h.kept (below_drewN (Below.refl _ _) n)
theorem Qf.prog (h : Qf w F v X L G u Y M P a Z L' Q b T M' i B) (s : ByteArray) (here : Int) (hs : s.size ≤ maxLen) (hi : i < 50000) (st : St) (hst : Go.Proofs.Ytmfffaocmboelaa.step L (row s) here = st) :
    Calls Try.prog 9 #[.pointer (some ⟨F, 0, none⟩), .string s, .int .i64 here] w fun e w' => ∃ va v' X', e = .returned (.tuple #[va, .int .i64 st.f]) ∧ w'.ownsRow w.heap.size 36 4 va st.acts.length (actC st.acts) ∧ Qf w' F v' X' st.L G u Y M P a Z L' Q b T M' (i + 1) B ∧ Below B w w' ∧
      ∀ q e vs, Bk w q e vs → e ≠ 57 → e ≠ 62 → e ≠ 3 → Bk w' q e vs := by
  refine (word_fw h.f s here hs hi st hst).mono fun e w' ⟨va, v', X', he, hrow, hF, hO, hown⟩ => ?_
  have far : ∀ k, k < w.heap.size → ¬ So F v X k → ¬ Own F v X w.heap.size k := fun k hk hn ho => by
    rcases ho with ho | ho | ho
    · exact hn (.inl ho)
    · exact hn (.inr ho)
    · omega
  have new : ∀ k, So F v' X' k → So F v X k ∨ w.heap.size ≤ k := fun k hk => by
    rcases hk with hk | hk
    · exact .inl (.inl hk)
    · rcases hown k hk with h1 | h1
      · exact .inl (.inr h1)
      · exact .inr h1
  refine ⟨va, v', X', he, hrow, ⟨hF, (h.g.keep hO fun k hk => far k (h.g.lt hk) (fun h1 => h.s1 k h1 hk)).mono (by omega), (h.p.keep hO fun k hk => far k (h.p.lt hk) (fun h1 => h.s2 k h1 hk)).mono (by omega), (h.q.keep hO fun k hk => far k (h.q.lt hk) (fun h1 => h.s3 k h1 hk)).mono (by omega), ?_, ?_, ?_, h.s4, h.s5, h.s6⟩, h.f.below hO, fun q e vs hq h1 h2 h3 => hO.bk hq (far q hq.lt (h.f.not_bk hq h1 h2 h3))⟩
  · intro k hk h1
    rcases new k hk with h2 | h2
    · exact h.s1 k h2 h1
    · have := h.g.lt h1; omega
  · intro k hk h1
    rcases new k hk with h2 | h2
    · exact h.s2 k h2 h1
    · have := h.p.lt h1; omega
  · intro k hk h1
    rcases new k hk with h2 | h2
    · exact h.s3 k h2 h1
    · have := h.q.lt h1; omega
theorem Qf.doc (h : Qf w F v X L G u Y M P a Z L' Q b T M' i B) (s : ByteArray) (here : Int) (hs : s.size ≤ maxLen) (hh : -9223372036854775808 ≤ here ∧ here ≤ 9223372036854775807) (hi : i < 50000) (st : St) (hst : Go.Proofs.Ytmfffaocmboelaa.step L' (row s) here = st) :
    Calls Try.prog 15 #[.pointer (some ⟨P, 0, none⟩), .string s, .int .i64 here] w fun e w' => ∃ va v' X', e = .returned (.tuple #[va, .int .i64 st.f]) ∧ w'.ownsRow w.heap.size 54 4 va st.acts.length (actC st.acts) ∧ Qf w' F v X L G u Y M P v' X' st.L Q b T M' (i + 1) B ∧ Below B w w' ∧
      (∀ q e vs, Bk w q e vs → e ≠ 45 → e ≠ 70 → e ≠ 3 → Bk w' q e vs) ∧ ∀ base n vb xs, w.ownsRow base 36 4 vb n xs → w'.ownsRow base 36 4 vb n xs := by
  refine (word_dw h.p s here hs hh hi st hst).mono fun e w' ⟨va, v', X', he, hrow, hF, hO, hown⟩ => ?_
  have far : ∀ k, k < w.heap.size → ¬ So P a Z k → ¬ Own P a Z w.heap.size k := fun k hk hn ho => by
    rcases ho with ho | ho | ho
    · exact hn (.inl ho)
    · exact hn (.inr ho)
    · omega
  have new : ∀ k, So P v' X' k → So P a Z k ∨ w.heap.size ≤ k := fun k hk => by
    rcases hk with hk | hk
    · exact .inl (.inl hk)
    · rcases hown k hk with h1 | h1
      · exact .inl (.inr h1)
      · exact .inr h1
  refine ⟨va, v', X', he, hrow, ⟨(h.f.keep hO fun k hk => far k (h.f.lt hk) (h.s2 k hk)).mono (by omega), (h.g.keep hO fun k hk => far k (h.g.lt hk) (h.s4 k hk)).mono (by omega), hF, (h.q.keep hO fun k hk => far k (h.q.lt hk) (fun h1 => h.s6 k h1 hk)).mono (by omega), h.s1, ?_, h.s3, ?_, h.s5, ?_⟩, h.p.below hO, fun q e vs hq h1 h2 h3 => hO.bk hq (far q hq.lt (h.p.not_bk hq h1 h2 h3)), fun base n vb xs hr => hO.row hr fun g hg => far g (hr.lt g hg).2 (h.p.not_row hr (by decide) (by decide) (by decide) g hg)⟩
  · intro k hk h1
    rcases new k h1 with h2 | h2
    · exact h.s2 k hk h2
    · have := h.f.lt hk; omega
  · intro k hk h1
    rcases new k h1 with h2 | h2
    · exact h.s4 k hk h2
    · have := h.g.lt hk; omega
  · intro k hk h1
    rcases new k hk with h2 | h2
    · exact h.s6 k h2 h1
    · have := h.q.lt h1; omega
/-- who writes acts turns nothing of a flow's -/
theorem Qf.acts {base n : Nat} {va : Value} {xs : List Value} (h : Qf w F v X L G u Y M P a Z L' Q b T M' i B) (hr : w.ownsRow base 36 4 va n xs) (hO : Onl (fun k => va.ownBlock = some k) w w') : Qf w' F v X L G u Y M P a Z L' Q b T M' i B :=
  h.keep hO (fun k hk h1 => h.f.not_row hr (by decide) (by decide) (by decide) k h1 hk) (fun k hk h1 => h.g.not_row hr (by decide) (by decide) (by decide) k h1 hk) (fun k hk h1 => h.p.not_row hr (by decide) (by decide) (by decide) k h1 hk) (fun k hk h1 => h.q.not_row hr (by decide) (by decide) (by decide) k h1 hk)
theorem dw_new (w : World) : Dw (w.alloc (.cells #[.slice none 0 0] 45)) w.heap.size (.slice none 0 0) [] [] 0 w.heap.size :=
  ⟨⟨Bk.fresh w _ _, Rwd.nil _ _, fun h => h.elim (fun h => by simp [Value.ownBlock] at h) (fun ⟨x, hx, _⟩ => by cases hx), fun k h => h.elim (fun h => by simp [Value.ownBlock] at h) (fun ⟨x, hx, _⟩ => by cases hx), by decide, fun x hx => (by cases hx), fun x hx => (by cases hx)⟩, rfl, ⟨by decide, fun x hx => (by cases hx), fun x hx => (by cases hx)⟩, Nat.le_refl _, fun k h => h.elim (fun h => by simp [Value.ownBlock] at h) (fun ⟨x, hx, _⟩ => by cases hx)⟩
theorem Dw.kept {L : List Th} (h : Dw w F v X L i B) (hB : Below w.heap.size w w') : Dw w' F v X L i B :=
  h.keep (s := fun k => w.heap.size ≤ k) (Onl.of_below hB (fun k _ hk => by omega)) (fun k hk h1 => by have := h.lt hk; omega)
theorem Dw.low {L : List Th} {C : Nat} (h : Dw w F v X L i B) (hC : C ≤ B) : Dw w F v X L i C := ⟨h.dl, h.th, h.ord, Nat.le_trans hC h.ge.1, fun k hk => Nat.le_trans hC (h.ge.2 k hk)⟩
theorem Fw.low {L : List Th} {C : Nat} (h : Fw w F v X L i B) (hC : C ≤ B) : Fw w F v X L i C := ⟨h.fl, h.th, h.ord, Nat.le_trans hC h.ge.1, fun k hk => Nat.le_trans hC (h.ge.2 k hk)⟩
/-- two new flows of the program's, an array of them, two of the document's, an array of them -/
theorem qf_new (w w1 w2 w3 w4 w5 w6 : World) (o1 o2 : Obj) (h1 : w1 = w.alloc (.cells #[.slice none 0 0] 57)) (h2 : w2 = w1.alloc (.cells #[.slice none 0 0] 57)) (h3 : w3 = w2.alloc o1) (h4 : w4 = w3.alloc (.cells #[.slice none 0 0] 45)) (h5 : w5 = w4.alloc (.cells #[.slice none 0 0] 45)) (h6 : w6 = w5.alloc o2) :
    Qf w6 w.heap.size (.slice none 0 0) [] [] (w.heap.size + 1) (.slice none 0 0) [] [] (w.heap.size + 3) (.slice none 0 0) [] [] (w.heap.size + 4) (.slice none 0 0) [] [] 0 w.heap.size := by
  have e1 : w1.heap.size = w.heap.size + 1 := by rw [h1]; simp
  have e2 : w2.heap.size = w.heap.size + 2 := by rw [h2]; simp [e1]
  have e3 : w3.heap.size = w.heap.size + 3 := by rw [h3]; simp [e2]
  have e4 : w4.heap.size = w.heap.size + 4 := by rw [h4]; simp [e3]
  have e5 : w5.heap.size = w.heap.size + 5 := by rw [h5]; simp [e4]
  have b6 : Below w5.heap.size w5 w6 := by rw [h6]; exact (Below.refl _ _).alloc (Nat.le_refl _) _
  have b5 : Below w4.heap.size w4 w6 := by have : Below w4.heap.size w4 w5 := by rw [h5]; exact (Below.refl _ _).alloc (Nat.le_refl _) _
                                           exact this.trans (b6.mono (by omega))
  have b3 : Below w2.heap.size w2 w6 := by have : Below w2.heap.size w2 w4 := by rw [h4, h3]; exact ((Below.refl _ _).alloc (Nat.le_refl _) _).alloc (by simp) _
                                           exact this.trans (b5.mono (by omega))
  have b2 : Below w1.heap.size w1 w6 := by have : Below w1.heap.size w1 w2 := by rw [h2]; exact (Below.refl _ _).alloc (Nat.le_refl _) _
                                           exact this.trans (b3.mono (by omega))
  have f1 := fw_new w
  rw [← h1] at f1
  have f2 := fw_new w1
  rw [← h2, e1] at f2
  have f3 := dw_new w3
  rw [← h4, e3] at f3
  have f4 := dw_new w4
  rw [← h5, e4] at f4
  have hno : ∀ k, ¬ ownOf (.slice none 0 0) [] k := fun k h => h.elim (fun h => by simp [Value.ownBlock] at h) (fun ⟨x, hx, _⟩ => by cases hx)
  have hne : ∀ F G, F ≠ G → ∀ k, So F (.slice none 0 0) [] k → ¬ So G (.slice none 0 0) [] k := fun F G hFG k h1 h2 => by
    rcases h1 with h1 | h1
    · rcases h2 with h2 | h2
      · exact hFG (h1.symm.trans h2)
      · exact hno _ h2
    · exact hno _ h1
  exact ⟨f1.kept b2, (f2.kept b3).low (by omega), (f3.kept b5).low (by omega), (f4.kept b6).low (by omega), hne _ _ (by omega), hne _ _ (by omega), hne _ _ (by omega), hne _ _ (by omega), hne _ _ (by omega), hne _ _ (by omega)⟩
end
end Go.Proofs.Ytmfffaocmboelaa
