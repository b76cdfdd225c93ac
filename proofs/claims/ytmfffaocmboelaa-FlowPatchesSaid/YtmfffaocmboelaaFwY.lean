import Derived.Test.YtmfffaocmboelaaFwX
import Derived.Test.YtmfffaocmboelaaFwW
namespace Go.Proofs.Ytmfffaocmboelaa
open Go.RowKit
set_option linter.unusedVariables false
set_option linter.unusedSimpArgs false
/-! a flow, and two slices of ints beside it -/
theorem own_up {W : World} {B n size : Nat} {e : TypeId} {v : Value} {xs : List Value} (h : W.ownsRow 0 e size v n xs) (hB : ∀ k, v.ownBlock = some k → B ≤ k) : W.ownsRow B e size v n xs := by
  refine ⟨h.1, ?_⟩
  rcases h.2 with hn | ⟨g, cap, cur, rfl, hb, rest⟩
  · exact .inl hn
  · exact .inr ⟨g, cap, cur, rfl, hB g rfl, rest⟩
structure Ps (w : World) (F : Nat) (v : Value) (X : List (Th × Value)) (L : List Th) (i B : Nat) (vW : Value) (Wl : List Int) (vD : Value) (Dl : List Int) : Prop where
  f : Fw w F v X L i B
  rW : w.ownsRow B 3 1 vW Wl.length (i64s Wl)
  rD : w.ownsRow B 3 1 vD Dl.length (i64s Dl)
  sW : ∀ g, vW.ownBlock = some g → ¬ (g = F ∨ ownOf v X g)
  sD : ∀ g, vD.ownBlock = some g → ¬ (g = F ∨ ownOf v X g)
  sWD : ∀ g, vW.ownBlock = some g → vD.ownBlock ≠ some g
section
variable {w w' : World} {F i B : Nat} {v vW vD : Value} {X : List (Th × Value)} {L : List Th} {Wl Dl : List Int}
theorem Ps.swap (h : Ps w F v X L i B vW Wl vD Dl) : Ps w F v X L i B vD Dl vW Wl := ⟨h.f, h.rD, h.rW, h.sD, h.sW, fun g h1 h2 => h.sWD g h2 h1⟩
theorem Ps.kept (h : Ps w F v X L i B vW Wl vD Dl) (hB : Below w.heap.size w w') : Ps w' F v X L i B vW Wl vD Dl := ⟨h.f.kept hB, own_below h.rW hB (Nat.le_refl _), own_below h.rD hB (Nat.le_refl _), h.sW, h.sD, h.sWD⟩
theorem Ps.sz (h : Ps w F v X L i B vW Wl vD Dl) : B ≤ w.heap.size := by have := h.f.ge.1; have := h.f.fl.bk.lt; omega
theorem ps_word (h : Ps w F v X L i B vW Wl vD Dl) (s : ByteArray) (here : Int) (hs : s.size ≤ maxLen) (hi : i < 50000) (st : St) (hst : Go.Proofs.Ytmfffaocmboelaa.step L (row s) here = st) :
    Calls Try.prog 9 #[.pointer (some ⟨F, 0, none⟩), .string s, .int .i64 here] w fun e w' => ∃ va v' X', e = .returned (.tuple #[va, .int .i64 st.f]) ∧ w'.ownsRow w.heap.size 36 4 va st.acts.length (actC st.acts) ∧ Ps w' F v' X' st.L (i + 1) B vW Wl vD Dl ∧ Below B w w' := by
  refine (word_fw h.f s here hs hi st hst).mono fun e w' ⟨va, v', X', he, hrow, hF, hO, hown⟩ => ?_
  have hn : ∀ {vv : Value} {xs : List Int}, w.ownsRow B 3 1 vv xs.length (i64s xs) → (∀ g, vv.ownBlock = some g → ¬ (g = F ∨ ownOf v X g)) → w'.ownsRow B 3 1 vv xs.length (i64s xs) ∧ ∀ g, vv.ownBlock = some g → ¬ (g = F ∨ ownOf v' X' g) := fun hr hn => by
    refine ⟨hO.row hr (fun g hg hk => ?_), fun g hg hk => ?_⟩
    · rcases hk with hk | hk | hk
      · exact hn g hg (.inl hk)
      · exact hn g hg (.inr hk)
      · have := (hr.lt g hg).2; omega
    · rcases hk with hk | hk
      · exact hn g hg (.inl hk)
      · rcases hown g hk with hk | hk
        · exact hn g hg (.inr hk)
        · have := (hr.lt g hg).2; omega
  obtain ⟨a1, a2⟩ := hn h.rW h.sW
  obtain ⟨b1, b2⟩ := hn h.rD h.sD
  exact ⟨va, v', X', he, hrow, ⟨hF, a1, b1, a2, b2, h.sWD⟩, h.f.below hO⟩
/-- one number more in the first slice -/
theorem Ps.add (h : Ps w F v X L i B vW Wl vD Dl) (x : Int) (hl : Wl.length ≤ 100000) : ∃ A' c' w2,
    (Builtin.append_ #[32, 32] 32 #[vW, .slice (some ⟨w.heap.size, 0, none⟩) 1 1]).run Try.prog (w.alloc (.cells #[.int .i64 x] 3)) = .ok (.slice A' (Wl.length + 1) c') w2 ∧
      Ps w2 F v X L i B (.slice A' (Wl.length + 1) c') (Wl ++ [x]) vD Dl ∧ Below B w w2 ∧ ∀ base n vb xs, w.ownsRow base 36 4 vb n xs → w2.ownsRow base 36 4 vb n xs := by
  obtain ⟨i9, hi, hz0, hz1, hz2⟩ := info_parts info_int
  obtain ⟨A', c', w2, hrun, hown, hgr, hnew⟩ := app_one (P := Try.prog) (w := w) Try.underlying32 hi hz0 hz1 hz2 rfl (by decide) (by decide) (own_base h.rW (Nat.zero_le _)) [.int .i64 x] rfl (fun u hu => by simp at hu; subst hu; rfl) (by omega)
  have hge := own_ge h.rW
  have hB := h.sz
  have hne : ∀ k, (Value.slice A' (Wl.length + 1) c').ownBlock = some k → vW.ownBlock = some k ∨ w.heap.size ≤ k := fun k hk => by
    rcases hnew with h1 | h1
    · exact .inl (h1 ▸ hk)
    · exact .inr (h1 k hk)
  have hO : Onl (fun k => vW.ownBlock = some k) w w2 := Onl.of_grown hgr (fun k hk => hk)
  refine ⟨A', c', w2, hrun, ⟨h.f.keep hO (fun k hk hk2 => h.sW k hk2 hk), ?_, hO.row h.rD (fun g hg hk => h.sWD g hk hg), fun g hg hk => ?_, h.sD, fun g hg hk => ?_⟩, below_grown (Below.refl _ _) hgr hB (fun k hk => hge k hk), fun base n vb xs hr => hO.row hr (fun g hg hk => row_far hr h.rW (by decide) hg hk)⟩
  · have := own_up (B := B) hown (fun k hk => (hne k hk).elim (hge k) (fun h1 => by omega))
    simpa [i64s] using this
  · rcases hne g hg with h1 | h1
    · exact h.sW g h1 hk
    · have := h.f.lt hk; omega
  · rcases hne g hg with h1 | h1
    · exact h.sWD g h1 hk
    · have := (h.rD.lt g hk).2; omega
theorem ps_new (w : World) : Ps (w.alloc (.cells #[.slice none 0 0] 57)) w.heap.size (.slice none 0 0) [] [] 0 w.heap.size (.slice none 0 0) [] (.slice none 0 0) [] :=
  ⟨fw_new w, World.ownsRow_nil _ _ _ _, World.ownsRow_nil _ _ _ _, fun g h => by simp [Value.ownBlock] at h, fun g h => by simp [Value.ownBlock] at h, fun g h => by simp [Value.ownBlock] at h⟩
end
theorem waitL_take (l : List Ac) (k : Nat) (a : Ac) (h : l[k]? = some a) : waitL (l.take (k + 1)) = waitL (l.take k) ++ waitA a := by
  obtain ⟨hk, rfl⟩ := List.getElem?_eq_some_iff.1 h
  rw [List.take_succ_eq_append_getElem hk]
  unfold waitL
  rw [List.flatMap_append]
  simp only [List.flatMap_cons, List.flatMap_nil, List.append_nil]
theorem doneL_take (l : List Ac) (k : Nat) (a : Ac) (h : l[k]? = some a) : doneL (l.take (k + 1)) = doneL (l.take k) ++ doneA a := by
  obtain ⟨hk, rfl⟩ := List.getElem?_eq_some_iff.1 h
  rw [List.take_succ_eq_append_getElem hk]
  unfold doneL
  rw [List.flatMap_append]
  simp only [List.flatMap_cons, List.flatMap_nil, List.append_nil]
theorem layN_take (l : List Ac) (k : Nat) (a : Ac) (h : l[k]? = some a) : layN (l.take (k + 1)) = layN (l.take k) + (if a.patch = true then 0 else 1) := by
  obtain ⟨hk, rfl⟩ := List.getElem?_eq_some_iff.1 h
  rw [List.take_succ_eq_append_getElem hk]
  unfold layN
  rw [List.filter_append, List.length_append]
  congr 1
  cases hp : l[k].patch <;> simp [hp]
theorem doneL_len (l : List Ac) : (doneL l).length ≤ l.length := by
  induction l with
  | nil => exact Nat.le_refl _
  | cons a l ih =>
    simp only [doneL, List.flatMap_cons, List.length_append, List.length_cons] at ih ⊢
    have : (doneA a).length ≤ 1 := by unfold doneA; split <;> simp
    omega
theorem waitL_len (l : List Ac) : (waitL l).length ≤ l.length := by
  induction l with
  | nil => exact Nat.le_refl _
  | cons a l ih =>
    simp only [waitL, List.flatMap_cons, List.length_append, List.length_cons] at ih ⊢
    have : (waitA a).length ≤ 1 := by unfold waitA; split <;> simp
    omega
theorem layN_len (l : List Ac) : layN l ≤ l.length := List.length_filter_le _ _
theorem drop_at (l : List Ac) (k : Nat) (a : Ac) (h : l[k]? = some a) : l.drop k = a :: l.drop (k + 1) := by
  obtain ⟨hk, rfl⟩ := List.getElem?_eq_some_iff.1 h
  exact List.drop_eq_getElem_cons hk
theorem row_at {w : World} {base n c : Nat} {e : TypeId} {A : Option Addr} {l : List Ac} (h : w.ownsRow base e 4 (.slice A n c) n (actC l)) (hn : l.length = n) (k : Nat) (hk : k < n) : ∃ g p x o t, A = some ⟨g, 0, none⟩ ∧ g < w.heap.size ∧ l[k]? = some ⟨p, x, o, t⟩ ∧ w.cell? ⟨g, k * 4, none⟩ = some (.bool p) ∧ w.cell? ⟨g, k * 4 + 1, none⟩ = some (.int .i64 x) ∧ w.cell? ⟨g, k * 4 + 2, none⟩ = some (.int .i64 o) ∧ w.cell? ⟨g, k * 4 + 3, none⟩ = some (.int .i64 t) := by
  subst hn
  obtain ⟨A', c', e1, hl⟩ := lies_at (lies_row h)
  obtain ⟨g, ⟨p, x, o, t⟩, hA, ha, h0, h1, h2, h3⟩ := hl k hk
  injection e1 with e1 _ _
  subst e1
  subst hA
  exact ⟨g, p, x, o, t, rfl, (h.lt g rfl).2, ha, h0, h1, h2, h3⟩
theorem ints_at {w : World} {B n c : Nat} {A : Option Addr} {l : List Int} (h : w.ownsRow B 3 1 (.slice A n c) n (i64s l)) (hn : l.length = n) (k : Nat) (hk : k < n) : ∃ g x, A = some ⟨g, 0, none⟩ ∧ l[k]? = some x ∧ w.cell? ⟨g, k, none⟩ = some (.int .i64 x) := by
  subst hn
  obtain ⟨g, hA, _, _, _, hc⟩ := own_at h (by omega)
  exact ⟨g, l[k], hA, List.getElem?_eq_getElem hk, hc k _ (by simp [i64s, List.getElem?_eq_getElem hk])⟩
theorem count_take (l : List Int) (k : Nat) (d x : Int) (h : l[k]? = some d) : (l.take (k + 1)).count x = (l.take k).count x + (if d = x then 1 else 0) := by
  obtain ⟨hk, rfl⟩ := List.getElem?_eq_some_iff.1 h
  rw [List.take_succ_eq_append_getElem hk, List.count_append, List.count_singleton]
  congr 1
  by_cases e : l[k] = x
  · simp [e]
  · simp [e]
/-- what holds between the words -/
structure Iv (Wl Dl : List Int) (L : List Th) (hh : Int) : Prop where
  cnt : ∀ y, Wl.count y = Dl.count y + (pendL L).count y
  nod : Wl.Nodup
  lt : ∀ y ∈ Wl, y < hh
  und : Und L
theorem Iv.next {Wl Dl : List Int} {L L' : List Th} {hh h2 h3 : Int} {acts : List Ac} (h : Iv Wl Dl L hh) (hk : Kp L h2 acts L') (h0 : hh ≤ h2) (h3' : h3 = h2 + 8 * layN acts) : Iv (Wl ++ waitL acts) (Dl ++ doneL acts) L' h3 := by
  refine ⟨fun y => ?_, ?_, fun y hy => ?_, hk.und⟩
  · rw [List.count_append, List.count_append, h.cnt y]
    have := hk.cnt y
    omega
  · rcases hk.one with h1 | ⟨y, h1, h2', _⟩
    · rw [h1, List.append_nil]; exact h.nod
    · rw [h1]
      refine List.nodup_append.2 ⟨h.nod, by simp, fun a ha b hb => ?_⟩
      simp at hb
      subst hb
      have := h.lt a ha
      omega
  · rcases List.mem_append.1 hy with hy | hy
    · have := h.lt y hy; omega
    · rcases hk.one with h1 | ⟨z, h1, _, hz⟩
      · rw [h1] at hy; cases hy
      · rw [h1] at hy; simp at hy; subst hy; omega
theorem Iv.len {Wl Dl : List Int} {L : List Th} {hh : Int} (h : Iv Wl Dl L hh) : Dl.length ≤ Wl.length := by
  have : Wl.Perm (Dl ++ pendL L) := List.perm_iff_count.2 fun y => by rw [List.count_append]; exact h.cnt y
  have := this.length_eq
  rw [List.length_append] at this
  omega
theorem Iv.fin {Wl Dl : List Int} {hh : Int} (h : Iv Wl Dl [] hh) : Dl.length = Wl.length ∧ ∀ y ∈ Wl, Dl.count y = 1 := by
  have : Wl.Perm Dl := List.perm_iff_count.2 fun y => by have := h.cnt y; simpa [pendL] using this
  refine ⟨this.length_eq.symm, fun y hy => ?_⟩
  rw [← this.count_eq y]
  rw [h.nod.count, if_pos hy]
end Go.Proofs.Ytmfffaocmboelaa
