import Derived.Test.YtbhgjjicmbbjaaaDoorTrXb
namespace Go.Proofs.YtbhgjjicmbbjaaaDoor
open Go.RowKit
set_option linter.unusedVariables false
set_option linter.unusedSimpArgs false
/-! ScriptApart -/
theorem own_cur {W : World} {base n size c : Nat} {e : TypeId} {A : Option Addr} {xs : List Value} (h : W.ownsRow base e size (.slice A n c) n xs) (hn : 0 < n) : ∃ (g : Nat) (cur : Array Value), A = some ⟨g, 0, none⟩ ∧ base ≤ g ∧ Bk W g e cur ∧ ∀ (j : Nat) (u : Value), xs[j]? = some u → cur[j]? = some u := by
  rcases h.2 with ⟨_, h0⟩ | ⟨g, cap, cur, e1, hb, hg, hnc, hm, hsz, hx⟩
  · omega
  · injection e1 with e1 _ e2
    refine ⟨g, cur, e1, hb, hg, fun j u hu => ?_⟩
    rw [← hx, List.getElem?_take] at hu
    split at hu
    · simpa using hu
    · cases hu
def PuCur (cur : Array Value) (P : List Pu) : Prop := ∀ (k : Nat) (x : Pu), P[k]? = some x → cur[k * 3]? = some (.string x.out) ∧ cur[k * 3 + 1]? = some (.int .i64 x.fault) ∧ cur[k * 3 + 2]? = some (.int .i64 x.fuel)
def PrCur (cur : Array Value) (P : List Pr) : Prop := ∀ (k : Nat) (x : Pr), P[k]? = some x → cur[k * 5]? = some (.int .i64 x.points) ∧ cur[k * 5 + 1]? = some (.bool x.said) ∧ cur[k * 5 + 2]? = some (.int .i64 x.fault) ∧ cur[k * 5 + 3]? = some (.int .i64 x.fuel) ∧ cur[k * 5 + 4]? = some (.string x.log)
theorem PuCur.of {cur : Array Value} {P : List Pu} (h : ∀ (j : Nat) (u : Value), (pusC P)[j]? = some u → cur[j]? = some u) : PuCur cur P := by
  intro k x hx
  have key := fun j (hj : j < 3) => h (k * 3 + j) _ ((flat_at puC 3 (fun _ => rfl) P k x hx j hj).trans (List.getElem?_eq_getElem (by rw [show (puC x).length = 3 from rfl]; exact hj)))
  exact ⟨key 0 (by decide), key 1 (by decide), key 2 (by decide)⟩
theorem PrCur.of {cur : Array Value} {P : List Pr} (h : ∀ (j : Nat) (u : Value), (prsC P)[j]? = some u → cur[j]? = some u) : PrCur cur P := by
  intro k x hx
  have key := fun j (hj : j < 5) => h (k * 5 + j) _ ((flat_at prC 5 (fun _ => rfl) P k x hx j hj).trans (List.getElem?_eq_getElem (by rw [show (prC x).length = 5 from rfl]; exact hj)))
  exact ⟨key 0 (by decide), key 1 (by decide), key 2 (by decide), key 3 (by decide), key 4 (by decide)⟩
theorem PuCur.row {W : World} {b : Nat} {t : TypeId} {cur : Array Value} {P : List Pu} (hb : Bk W b t cur) (h : PuCur cur P) : PuRow W (some ⟨b, 0, none⟩) P := by
  intro k x hx
  obtain ⟨a0, a1, a2⟩ := h k x hx
  refine ⟨b, 0, rfl, hb.lt, ?_⟩
  simp only [Nat.zero_add]
  exact ⟨(hb.cell _).trans a0, (hb.cell _).trans a1, (hb.cell _).trans a2⟩
theorem PrCur.row {W : World} {b : Nat} {t : TypeId} {cur : Array Value} {P : List Pr} (hb : Bk W b t cur) (h : PrCur cur P) : PrRow W (some ⟨b, 0, none⟩) P := by
  intro k x hx
  obtain ⟨a0, a1, a2, a3, a4⟩ := h k x hx
  refine ⟨b, 0, rfl, hb.lt, ?_⟩
  simp only [Nat.zero_add]
  exact ⟨(hb.cell _).trans a0, (hb.cell _).trans a1, (hb.cell _).trans a2, (hb.cell _).trans a3, (hb.cell _).trans a4⟩
theorem PuCur.putOut {cur : Array Value} {P : List Pu} {i : Nat} {x : Pu} (h : PuCur cur P) (hx : P[i]? = some x) (v : ByteArray) : PuCur (cur.setIfInBounds (i * 3 + 0) (.string v)) (P.set i { x with out := v }) := by
  intro k y hy
  by_cases hk : k = i
  · subst hk
    rw [List.getElem?_set_self (List.getElem?_eq_some_iff.1 hx).1] at hy
    injection hy with hy
    subst hy
    obtain ⟨a0, a1, a2⟩ := h k x hx
    have b0 := (Array.getElem?_eq_some_iff.1 a0).1
    have b1 := (Array.getElem?_eq_some_iff.1 a1).1
    have b2 := (Array.getElem?_eq_some_iff.1 a2).1
    refine ⟨?_, ?_, ?_⟩ <;> rw [Array.getElem?_setIfInBounds] <;> first | (rw [if_pos (by omega), if_pos (by omega)]) | (rw [if_neg (by omega)]; assumption)
  · rw [List.getElem?_set_ne (Ne.symm hk)] at hy
    obtain ⟨a0, a1, a2⟩ := h k y hy
    refine ⟨?_, ?_, ?_⟩ <;> rw [Array.getElem?_setIfInBounds, if_neg (by omega)] <;> assumption
theorem PuCur.putFault {cur : Array Value} {P : List Pu} {i : Nat} {x : Pu} (h : PuCur cur P) (hx : P[i]? = some x) (v : Int) : PuCur (cur.setIfInBounds (i * 3 + 1) (.int .i64 v)) (P.set i { x with fault := v }) := by
  intro k y hy
  by_cases hk : k = i
  · subst hk
    rw [List.getElem?_set_self (List.getElem?_eq_some_iff.1 hx).1] at hy
    injection hy with hy
    subst hy
    obtain ⟨a0, a1, a2⟩ := h k x hx
    have b0 := (Array.getElem?_eq_some_iff.1 a0).1
    have b1 := (Array.getElem?_eq_some_iff.1 a1).1
    have b2 := (Array.getElem?_eq_some_iff.1 a2).1
    refine ⟨?_, ?_, ?_⟩ <;> rw [Array.getElem?_setIfInBounds] <;> first | (rw [if_pos (by omega), if_pos (by omega)]) | (rw [if_neg (by omega)]; assumption)
  · rw [List.getElem?_set_ne (Ne.symm hk)] at hy
    obtain ⟨a0, a1, a2⟩ := h k y hy
    refine ⟨?_, ?_, ?_⟩ <;> rw [Array.getElem?_setIfInBounds, if_neg (by omega)] <;> assumption
theorem PuCur.putFuel {cur : Array Value} {P : List Pu} {i : Nat} {x : Pu} (h : PuCur cur P) (hx : P[i]? = some x) (v : Int) : PuCur (cur.setIfInBounds (i * 3 + 2) (.int .i64 v)) (P.set i { x with fuel := v }) := by
  intro k y hy
  by_cases hk : k = i
  · subst hk
    rw [List.getElem?_set_self (List.getElem?_eq_some_iff.1 hx).1] at hy
    injection hy with hy
    subst hy
    obtain ⟨a0, a1, a2⟩ := h k x hx
    have b0 := (Array.getElem?_eq_some_iff.1 a0).1
    have b1 := (Array.getElem?_eq_some_iff.1 a1).1
    have b2 := (Array.getElem?_eq_some_iff.1 a2).1
    refine ⟨?_, ?_, ?_⟩ <;> rw [Array.getElem?_setIfInBounds] <;> first | (rw [if_pos (by omega), if_pos (by omega)]) | (rw [if_neg (by omega)]; assumption)
  · rw [List.getElem?_set_ne (Ne.symm hk)] at hy
    obtain ⟨a0, a1, a2⟩ := h k y hy
    refine ⟨?_, ?_, ?_⟩ <;> rw [Array.getElem?_setIfInBounds, if_neg (by omega)] <;> assumption
theorem PrCur.putPoints {cur : Array Value} {P : List Pr} {i : Nat} {x : Pr} (h : PrCur cur P) (hx : P[i]? = some x) (v : Int) : PrCur (cur.setIfInBounds (i * 5 + 0) (.int .i64 v)) (P.set i { x with points := v }) := by
  intro k y hy
  by_cases hk : k = i
  · subst hk
    rw [List.getElem?_set_self (List.getElem?_eq_some_iff.1 hx).1] at hy
    injection hy with hy
    subst hy
    obtain ⟨a0, a1, a2, a3, a4⟩ := h k x hx
    have b0 := (Array.getElem?_eq_some_iff.1 a0).1
    have b1 := (Array.getElem?_eq_some_iff.1 a1).1
    have b2 := (Array.getElem?_eq_some_iff.1 a2).1
    have b3 := (Array.getElem?_eq_some_iff.1 a3).1
    have b4 := (Array.getElem?_eq_some_iff.1 a4).1
    refine ⟨?_, ?_, ?_, ?_, ?_⟩ <;> rw [Array.getElem?_setIfInBounds] <;> first | (rw [if_pos (by omega), if_pos (by omega)]) | (rw [if_neg (by omega)]; assumption)
  · rw [List.getElem?_set_ne (Ne.symm hk)] at hy
    obtain ⟨a0, a1, a2, a3, a4⟩ := h k y hy
    refine ⟨?_, ?_, ?_, ?_, ?_⟩ <;> rw [Array.getElem?_setIfInBounds, if_neg (by omega)] <;> assumption
theorem PrCur.putSaid {cur : Array Value} {P : List Pr} {i : Nat} {x : Pr} (h : PrCur cur P) (hx : P[i]? = some x) (v : Bool) : PrCur (cur.setIfInBounds (i * 5 + 1) (.bool v)) (P.set i { x with said := v }) := by
  intro k y hy
  by_cases hk : k = i
  · subst hk
    rw [List.getElem?_set_self (List.getElem?_eq_some_iff.1 hx).1] at hy
    injection hy with hy
    subst hy
    obtain ⟨a0, a1, a2, a3, a4⟩ := h k x hx
    have b0 := (Array.getElem?_eq_some_iff.1 a0).1
    have b1 := (Array.getElem?_eq_some_iff.1 a1).1
    have b2 := (Array.getElem?_eq_some_iff.1 a2).1
    have b3 := (Array.getElem?_eq_some_iff.1 a3).1
    have b4 := (Array.getElem?_eq_some_iff.1 a4).1
    refine ⟨?_, ?_, ?_, ?_, ?_⟩ <;> rw [Array.getElem?_setIfInBounds] <;> first | (rw [if_pos (by omega), if_pos (by omega)]) | (rw [if_neg (by omega)]; assumption)
  · rw [List.getElem?_set_ne (Ne.symm hk)] at hy
    obtain ⟨a0, a1, a2, a3, a4⟩ := h k y hy
    refine ⟨?_, ?_, ?_, ?_, ?_⟩ <;> rw [Array.getElem?_setIfInBounds, if_neg (by omega)] <;> assumption
theorem PrCur.putFault {cur : Array Value} {P : List Pr} {i : Nat} {x : Pr} (h : PrCur cur P) (hx : P[i]? = some x) (v : Int) : PrCur (cur.setIfInBounds (i * 5 + 2) (.int .i64 v)) (P.set i { x with fault := v }) := by
  intro k y hy
  by_cases hk : k = i
  · subst hk
    rw [List.getElem?_set_self (List.getElem?_eq_some_iff.1 hx).1] at hy
    injection hy with hy
    subst hy
    obtain ⟨a0, a1, a2, a3, a4⟩ := h k x hx
    have b0 := (Array.getElem?_eq_some_iff.1 a0).1
    have b1 := (Array.getElem?_eq_some_iff.1 a1).1
    have b2 := (Array.getElem?_eq_some_iff.1 a2).1
    have b3 := (Array.getElem?_eq_some_iff.1 a3).1
    have b4 := (Array.getElem?_eq_some_iff.1 a4).1
    refine ⟨?_, ?_, ?_, ?_, ?_⟩ <;> rw [Array.getElem?_setIfInBounds] <;> first | (rw [if_pos (by omega), if_pos (by omega)]) | (rw [if_neg (by omega)]; assumption)
  · rw [List.getElem?_set_ne (Ne.symm hk)] at hy
    obtain ⟨a0, a1, a2, a3, a4⟩ := h k y hy
    refine ⟨?_, ?_, ?_, ?_, ?_⟩ <;> rw [Array.getElem?_setIfInBounds, if_neg (by omega)] <;> assumption
theorem PrCur.putFuel {cur : Array Value} {P : List Pr} {i : Nat} {x : Pr} (h : PrCur cur P) (hx : P[i]? = some x) (v : Int) : PrCur (cur.setIfInBounds (i * 5 + 3) (.int .i64 v)) (P.set i { x with fuel := v }) := by
  intro k y hy
  by_cases hk : k = i
  · subst hk
    rw [List.getElem?_set_self (List.getElem?_eq_some_iff.1 hx).1] at hy
    injection hy with hy
    subst hy
    obtain ⟨a0, a1, a2, a3, a4⟩ := h k x hx
    have b0 := (Array.getElem?_eq_some_iff.1 a0).1
    have b1 := (Array.getElem?_eq_some_iff.1 a1).1
    have b2 := (Array.getElem?_eq_some_iff.1 a2).1
    have b3 := (Array.getElem?_eq_some_iff.1 a3).1
    have b4 := (Array.getElem?_eq_some_iff.1 a4).1
    refine ⟨?_, ?_, ?_, ?_, ?_⟩ <;> rw [Array.getElem?_setIfInBounds] <;> first | (rw [if_pos (by omega), if_pos (by omega)]) | (rw [if_neg (by omega)]; assumption)
  · rw [List.getElem?_set_ne (Ne.symm hk)] at hy
    obtain ⟨a0, a1, a2, a3, a4⟩ := h k y hy
    refine ⟨?_, ?_, ?_, ?_, ?_⟩ <;> rw [Array.getElem?_setIfInBounds, if_neg (by omega)] <;> assumption
theorem PrCur.putLog {cur : Array Value} {P : List Pr} {i : Nat} {x : Pr} (h : PrCur cur P) (hx : P[i]? = some x) (v : ByteArray) : PrCur (cur.setIfInBounds (i * 5 + 4) (.string v)) (P.set i { x with log := v }) := by
  intro k y hy
  by_cases hk : k = i
  · subst hk
    rw [List.getElem?_set_self (List.getElem?_eq_some_iff.1 hx).1] at hy
    injection hy with hy
    subst hy
    obtain ⟨a0, a1, a2, a3, a4⟩ := h k x hx
    have b0 := (Array.getElem?_eq_some_iff.1 a0).1
    have b1 := (Array.getElem?_eq_some_iff.1 a1).1
    have b2 := (Array.getElem?_eq_some_iff.1 a2).1
    have b3 := (Array.getElem?_eq_some_iff.1 a3).1
    have b4 := (Array.getElem?_eq_some_iff.1 a4).1
    refine ⟨?_, ?_, ?_, ?_, ?_⟩ <;> rw [Array.getElem?_setIfInBounds] <;> first | (rw [if_pos (by omega), if_pos (by omega)]) | (rw [if_neg (by omega)]; assumption)
  · rw [List.getElem?_set_ne (Ne.symm hk)] at hy
    obtain ⟨a0, a1, a2, a3, a4⟩ := h k y hy
    refine ⟨?_, ?_, ?_, ?_, ?_⟩ <;> rw [Array.getElem?_setIfInBounds, if_neg (by omega)] <;> assumption
/-! what is written of two lists is the same for the same lists alone -/
theorem linesL_inj {X : Type} {ok : X → Bool} {bd : X → List UInt8} (K : Kind ok bd) {P Q : List X} (hP : P.length ≤ 32) (hQ : Q.length ≤ 32) (oP : P.all ok = true) (oQ : Q.all ok = true) (h : linesL bd 1 P = linesL bd 1 Q) : P = Q := by
  have h1 := readN_lines K P 32 1 hP oP
  have h2 := readN_lines K Q 32 1 hQ oQ
  rw [h, h2] at h1
  injection h1 with h1
  exact h1.symm
def txP (P : List Pu) : ByteArray := ⟨(linesL puL 1 P).toArray⟩
def txR (P : List Pr) : ByteArray := ⟨(linesL prL 1 P).toArray⟩
instance : DecidableEq Pu := fun a b => if h : a.out = b.out ∧ a.fault = b.fault ∧ a.fuel = b.fuel then .isTrue (by cases a; cases b; simp at h; simp [h]) else .isFalse (fun e => h (by rw [e]; exact ⟨rfl, rfl, rfl⟩))
instance : DecidableEq Pr := fun a b => if h : a.points = b.points ∧ a.said = b.said ∧ a.fault = b.fault ∧ a.fuel = b.fuel ∧ a.log = b.log then .isTrue (by cases a; cases b; simp at h; simp [h]) else .isFalse (fun e => h (by rw [e]; exact ⟨rfl, rfl, rfl, rfl, rfl⟩))
theorem set_same {X : Type} {P : List X} {i : Nat} {x y : X} (h : P[i]? = some x) : P = P.set i y ↔ x = y := by
  have hl := (List.getElem?_eq_some_iff.1 h).1
  constructor
  · intro e
    have := congrArg (·[i]?) e
    simp only [h, List.getElem?_set_self hl] at this
    injection this
  · rintro rfl
    apply List.ext_getElem?
    intro j
    by_cases hj : i = j
    · subst hj
      rw [List.getElem?_set_self hl, h]
    · rw [List.getElem?_set_ne hj]
theorem all_set {X : Type} {ok : X → Bool} {P : List X} {i : Nat} {y : X} (h : P.all ok = true) (hy : ok y = true) : (P.set i y).all ok = true := by
  rw [List.all_eq_true] at h ⊢
  intro z hz
  rcases List.mem_or_eq_of_mem_set hz with h1 | rfl
  · exact h z h1
  · exact hy
theorem txP_set {P : List Pu} {i : Nat} {x y : Pu} (hP : P.length ≤ 32) (oP : P.all puOk = true) (h : P[i]? = some x) (hy : puOk y = true) : ((txP P).toList == (txP (P.set i y)).toList) = decide (x = y) := by
  unfold txP
  rw [Lib.toList_data, Lib.toList_data, ba_list, ba_list]
  by_cases e : x = y
  · rw [decide_eq_true e, ← (set_same h).2 e]
    simp
  · rw [decide_eq_false e]
    simp only [beq_eq_false_iff_ne, ne_eq]
    exact fun h2 => e ((set_same h).1 (linesL_inj kind_pu hP (by rw [List.length_set]; exact hP) oP (all_set oP hy) h2))
theorem txR_set {P : List Pr} {i : Nat} {x y : Pr} (hP : P.length ≤ 32) (oP : P.all prOk = true) (h : P[i]? = some x) (hy : prOk y = true) : ((txR P).toList == (txR (P.set i y)).toList) = decide (x = y) := by
  unfold txR
  rw [Lib.toList_data, Lib.toList_data, ba_list, ba_list]
  by_cases e : x = y
  · rw [decide_eq_true e, ← (set_same h).2 e]
    simp
  · rw [decide_eq_false e]
    simp only [beq_eq_false_iff_ne, ne_eq]
    exact fun h2 => e ((set_same h).1 (linesL_inj kind_pr hP (by rw [List.length_set]; exact hP) oP (all_set oP hy) h2))

theorem pick_lt2 {F : Int} {z : Int} {n : Nat} (h : (pickN F n : Int) = z) (hn : 0 < n) : 0 ≤ z ∧ z < n := by
  have := pickN_lt F n hn
  omega
/-- what stands while a switch is gone through -/
structure Two (w0 : World) (g1 g2 : Nat) (C1 C2 : Array Value) (W : World) : Prop where
  a : Bk W g1 27 C1
  b : Bk W g2 34 C2
  bl : Below w0.heap.size w0 W
theorem Two.bel {w0 W W' : World} {g1 g2 : Nat} {C1 C2 : Array Value} (h : Two w0 g1 g2 C1 C2 W) (hb : Below W.heap.size W W') : Two w0 g1 g2 C1 C2 W' := ⟨h.a.kept hb h.a.lt, h.b.kept hb h.b.lt, h.bl.trans (hb.mono h.bl.size)⟩
theorem Two.put1 {w0 W : World} {g1 g2 : Nat} {C1 C2 : Array Value} (h : Two w0 g1 g2 C1 C2 W) (hg : w0.heap.size ≤ g1) (hne : g1 ≠ g2) (k : Nat) (v : Value) : Two w0 g1 g2 (C1.setIfInBounds k v) C2 (W.setCell ⟨g1, k, none⟩ v) :=
  ⟨h.a.put k v, h.b.other (p := ⟨g1, k, none⟩) (fun e => hne e.symm) v, h.bl.setCell (p := ⟨g1, k, none⟩) hg v⟩
theorem Two.put2 {w0 W : World} {g1 g2 : Nat} {C1 C2 : Array Value} (h : Two w0 g1 g2 C1 C2 W) (hg : w0.heap.size ≤ g2) (hne : g1 ≠ g2) (k : Nat) (v : Value) : Two w0 g1 g2 C1 (C2.setIfInBounds k v) (W.setCell ⟨g2, k, none⟩ v) :=
  ⟨h.a.other (p := ⟨g2, k, none⟩) hne v, h.b.put k v, h.bl.setCell (p := ⟨g2, k, none⟩) hg v⟩
theorem step_mod {f : Int} (k N : Int) (hN : N ≤ 1000001) (hk : 0 < k) (hkN : k < N) (h0 : 0 ≤ f) (h1 : f < N) : 0 ≤ (wrap64 (f + k)).tmod N ∧ (wrap64 (f + k)).tmod N < N ∧ f ≠ (wrap64 (f + k)).tmod N := by
  have hw : wrap64 (f + k) = f + k := by unfold wrap64; omega
  rw [hw, Int.tmod_eq_emod_of_nonneg (by omega)]
  refine ⟨Int.emod_nonneg _ (by omega), Int.emod_lt_of_pos _ (by omega), ?_⟩
  by_cases h : f + k < N
  · rw [Int.emod_eq_of_lt (by omega) h]; omega
  · have : (f + k) % N = f + k - N := by
      rw [← Int.sub_emod_right, Int.emod_eq_of_lt (by omega) (by omega)]
    rw [this]; omega
set_option maxRecDepth 100000 in
set_option maxHeartbeats 8000000 in
theorem walk_apart (A : Option Addr) (n c : Nat) (at_ what : Int) (tx : ByteArray) (w : World) (hM : Mk w) (ho : Tests17 w A n) (hat : -9223372036854775808 ≤ at_ ∧ at_ ≤ 9223372036854775807) (hwh : -9223372036854775808 ≤ what ∧ what ≤ 9223372036854775807) (htx : tx.size ≤ maxLen) : Calls Tryd.prog 7 #[.slice A n c, .int .i64 at_, .int .i64 what, .string tx] w fun e w' => e = .returned (.bool true) ∧ Below w.heap.size w w' := by
  obtain ⟨xs, hn, hr, hI⟩ := ts_open ho
  have hn4 := ho.1
  have htx2 : (tx.size : Int) ≤ 9223372036854775807 := by unfold maxLen at htx; omega
  have hsh := Lib.hid (shown_any w hM)
  have q0 := Lib.hid (fun W (hb : Below w.heap.size w W) => tests_any A n c xs W hn (hr.bel hb) hI (by omega))
  have hPl : (tsP xs).length = min n 32 := by rw [tsP_len, hn]
  have hRl : (tsR xs).length = min n 32 := by rw [tsR_len, hn]
  have hPo := tsP_ok xs
  have hRo := tsR_ok xs
  have hboth : ∀ (k : Nat) (x : Pu) (y : Pr), (tsP xs)[k]? = some x → (tsR xs)[k]? = some y → y.fuel = x.fuel ∧ y.fault = x.fault ∧ y.log = x.out := by
    intro k x y h1 h2
    unfold tsP at h1
    unfold tsR at h2
    rw [List.getElem?_map] at h1 h2
    cases ht : (xs.take 32)[k]? with
    | none => rw [ht] at h1; cases h1
    | some t =>
      rw [ht] at h1 h2
      injection h1 with h1
      injection h2 with h2
      rw [← h1, ← h2]
      exact ⟨rfl, rfl, rfl⟩
  obtain ⟨m, hm⟩ : ∃ m, min n 32 = m := ⟨_, rfl⟩
  have hm32 : m ≤ 32 := by omega
  simp only [hm] at q0 hPl hRl
  obtain ⟨P, hP⟩ : ∃ P, tsP xs = P := ⟨_, rfl⟩
  obtain ⟨R, hR⟩ : ∃ R, tsR xs = R := ⟨_, rfl⟩
  simp only [hP, hR] at q0 hPl hRl hPo hRo hboth
  have q1 := Lib.hid (fun (Q : List Pu) (hQl : Q.length = m) (hQo : Q.all puOk = true) W (hb : Below w.heap.size w W) A1 c1 (h : PuRow W A1 Q) => by
    have q := Public_any A1 m c1 Q W (hM.bel hb) hQl h (fun x hx => puOk_I (List.all_eq_true.1 hQo x hx)) (by omega)
    have hw := writeT_ok (bd := puL) (by omega) hQo
    rw [hw.1, hw.2, show (⟨(linesL puL 1 Q).toArray⟩ : ByteArray) = txP Q from rfl] at q
    exact q)
  have q2 := Lib.hid (fun (Q : List Pr) (hQl : Q.length = m) (hQo : Q.all prOk = true) W (hb : Below w.heap.size w W) A1 c1 (h : PrRow W A1 Q) => by
    have q := Private_any A1 m c1 Q W (hM.bel hb) hQl h (fun x hx => prOk_I (List.all_eq_true.1 hQo x hx)) (by omega)
    have hw := writeT_ok (bd := prL) (by omega) hQo
    rw [hw.1, hw.2, show (⟨(linesL prL 1 Q).toArray⟩ : ByteArray) = txR Q from rfl] at q
    exact q)
  have hmI : (m : Int) ≤ 32 := by omega
  replace hPl := Lib.hid hPl
  replace hRl := Lib.hid hRl
  replace hPo := Lib.hid hPo
  replace hRo := Lib.hid hRo
  replace hboth := Lib.hid hboth
  clear hP hR hm hr hI hM ho hn htx
  go_enter Tryd.func7, Tryd.ntmps7
  go_wp2_with (fail)
  refine hsh.out.mono ?_
  rintro e w1 ⟨rfl, hb⟩
  have hB := Lib.hid hb
  clear hb hsh
  go_wp2_with (fail)
  refine (q0.out w1 hB.out).mono ?_
  rintro e w2 ⟨⟨A1, c1, A2, c2, rfl, o1, o2⟩, hb⟩
  have hBB := hB.out.trans (hb.mono hB.out.size)
  clear q0
  by_cases hm0 : m = 0
  · subst hm0
    replace hBB := Lib.hid hBB
    clear o1 o2 hb
    go_wp2_with (fail)
    go_returns
    exact ⟨rfl, hBB.out⟩
  have hmp : ((m : Int) == 0) = false := by simp; omega
  by_cases h2000 : 2000 < tx.size
  · have h2 : (2000 : Int) < (tx.size : Int) := by omega
    replace hBB := Lib.hid hBB
    clear o1 o2 hb
    go_wp2_with (fail)
    go_returns
    exact ⟨rfl, hBB.out⟩
  have h2 : ¬ (2000 : Int) < (tx.size : Int) := by omega
  obtain ⟨g1, C1, rfl, gb1, bk1, hc1⟩ := own_cur o1 (by omega)
  obtain ⟨g2, C2, rfl, gb2, bk2, hc2⟩ := own_cur o2 (by omega)
  have hC1 := PuCur.of hc1
  have hC2 := PrCur.of hc2
  have hg1 : w.heap.size ≤ g1 := Nat.le_trans hB.out.size gb1
  have hg2 : w.heap.size ≤ g2 := Nat.le_trans hB.out.size gb2
  have hne := bk1.ne bk2 (by decide)
  have hZ := Lib.hid (⟨bk1, bk2, hBB⟩ : Two w g1 g2 C1 C2 w2)
  have hi := pickN_lt at_ m (by omega)
  have p1 : ∀ W, Calls Tryd.prog 22 #[.int .i64 at_, .int .i64 (m : Int)] W fun e w' => e = .returned (.int .i64 (pickN at_ m : Int)) ∧ w' = W := fun W => pick_any at_ (m : Int) W hat.1 hat.2 (by omega) (by omega)
  have p2 : ∀ W, Calls Tryd.prog 22 #[.int .i64 what, .int .i64 4] W fun e w' => e = .returned (.int .i64 (pickN what 4 : Int)) ∧ w' = W := fun W => pick_any what 4 W hwh.1 hwh.2 (by decide) (by decide)
  obtain ⟨i, hiE⟩ : ∃ i, pickN at_ m = i := ⟨_, rfl⟩
  rw [hiE] at hi
  simp only [hiE] at p1
  have hd4 := pickN_lt what 4 (by decide)
  obtain ⟨d, hdE⟩ : ∃ d, pickN what 4 = d := ⟨_, rfl⟩
  rw [hdE] at hd4
  simp only [hdE] at p2
  replace p1 := Lib.hid p1
  replace p2 := Lib.hid p2
  obtain ⟨x, hx⟩ : ∃ x, P[i]? = some x := ⟨_, List.getElem?_eq_getElem (by rw [hPl.out]; exact hi)⟩
  obtain ⟨y, hy⟩ : ∃ x, R[i]? = some x := ⟨_, List.getElem?_eq_getElem (by rw [hRl.out]; exact hi)⟩
  have hi1 : (i : Int) < (m : Int) := by omega
  replace hC1 := Lib.hid hC1
  replace hC2 := Lib.hid hC2
  replace hg1 := Lib.hid hg1
  replace hg2 := Lib.hid hg2
  replace hne := Lib.hid hne
  replace hx := Lib.hid hx
  replace hy := Lib.hid hy
  clear hb hBB o1 o2 gb1 gb2 bk1 bk2 hc1 hc2 hiE hdE hat hwh
  go_wp2_with (fail)
  refine (p1.out _).mono ?_
  rintro e w1_ ⟨rfl, hw1⟩
  replace hw1 := hw1.symm
  subst hw1
  clear p1
  go_wp2_with (fail)
  refine (q1.out P hPl.out hPo.out w2 hZ.out.bl _ c1 (hC1.out.row hZ.out.a)).mono ?_
  rintro e w3 ⟨rfl, hb⟩
  replace hZ := Lib.hid (hZ.out.bel hb)
  clear hb
  go_wp2_with (fail)
  refine (q2.out R hRl.out hRo.out w3 hZ.out.bl _ c2 (hC2.out.row hZ.out.b)).mono ?_
  rintro e w4 ⟨rfl, hb⟩
  replace hZ := Lib.hid (hZ.out.bel hb)
  clear hb
  go_wp2_with (fail)
  refine (p2.out _).mono ?_
  rintro e w4_ ⟨rfl, hw1⟩
  replace hw1 := hw1.symm
  subst hw1
  clear p2
  have x0 := (hZ.out.a.cell (i * 3)).trans (hC1.out i x hx.out).1
  have x1 := (hZ.out.a.cell (i * 3 + 1)).trans (hC1.out i x hx.out).2.1
  have x2 := (hZ.out.a.cell (i * 3 + 2)).trans (hC1.out i x hx.out).2.2
  have f0 := hZ.out.a.free (i * 3)
  have f1 := hZ.out.a.free (i * 3 + 1)
  have f2 := hZ.out.a.free (i * 3 + 2)
  have y0 := (hZ.out.b.cell (i * 5)).trans (hC2.out i y hy.out).1
  have y1 := (hZ.out.b.cell (i * 5 + 1)).trans (hC2.out i y hy.out).2.1
  have y2 := (hZ.out.b.cell (i * 5 + 2)).trans (hC2.out i y hy.out).2.2.1
  have y4 := (hZ.out.b.cell (i * 5 + 4)).trans (hC2.out i y hy.out).2.2.2.2
  have y3 := (hZ.out.b.cell (i * 5 + 3)).trans (hC2.out i y hy.out).2.2.2.1
  have e0 := hZ.out.b.free (i * 5)
  have e1 := hZ.out.b.free (i * 5 + 1)
  have e2 := hZ.out.b.free (i * 5 + 2)
  have e3 := hZ.out.b.free (i * 5 + 3)
  have e4 := hZ.out.b.free (i * 5 + 4)
  have oy := prOk_iff.1 (List.all_eq_true.1 hRo.out y (List.mem_of_getElem? hy.out))
  have ox := rightP_iff.1 (show rightP x.fault x.fuel x.out = true from List.all_eq_true.1 hPo.out x (List.mem_of_getElem? hx.out))
  obtain ⟨b1, b2, b3⟩ := hboth.out i x y hx.out hy.out
  rcases (by omega : d = 0 ∨ d = 1 ∨ d = 2 ∨ d = 3) with rfl | rfl | rfl | rfl
  · have hst := step_mod (f := x.fuel) 1 1000001 (by decide) (by decide) (by decide) ox.2.1 (by omega)
    obtain ⟨V, hV⟩ : ∃ V, (wrap64 (x.fuel + 1)).tmod 1000001 = V := ⟨_, rfl⟩
    rw [hV] at hst
    have hok1 : puOk { x with fuel := V } = true := rightP_iff.2 ⟨ox.1, hst.1, by show V ≤ 1000000; omega, ox.2.2.2⟩
    have hok2 : prOk { y with fuel := V } = true := prOk_iff.2 ⟨⟨oy.1.1, hst.1, by show V ≤ 1000000; omega, oy.1.2.2.2⟩, oy.2⟩
    have hdf1 : decide (x = { x with fuel := V }) = false := decide_eq_false (fun e => hst.2.2 (congrArg Pu.fuel e))
    have hdf2 : decide (y = { y with fuel := V }) = false := decide_eq_false (fun e => hst.2.2 (b1.symm.trans (congrArg Pr.fuel e)))
    have hQl : Hid ((P.set i { x with fuel := V }).length = m) := by show _ = _; rw [List.length_set]; exact hPl.out
    have hRl2 : Hid ((R.set i { y with fuel := V }).length = m) := by show _ = _; rw [List.length_set]; exact hRl.out
    have hQo : Hid ((P.set i { x with fuel := V }).all puOk = true) := Lib.hid (all_set hPo.out hok1)
    have hRo2 : Hid ((R.set i { y with fuel := V }).all prOk = true) := Lib.hid (all_set hRo.out hok2)
    have hSU := txP_set (by rw [hPl.out]; exact hm32) hPo.out hx.out hok1
    have hTV := txR_set (by rw [hRl.out]; exact hm32) hRo.out hy.out hok2
    rw [hdf1] at hSU
    rw [hdf2] at hTV
    clear hok1 hok2 hdf1 hdf2
    have hK1 := Lib.hid (hC1.out.putFuel hx.out V)
    have hK2 := Lib.hid (hC2.out.putFuel hy.out V)
    have hZ2 := Lib.hid ((hZ.out.put1 hg1.out hne.out (i * 3 + 2) (.int .i64 V)).put2 hg2.out hne.out (i * 5 + 3) (.int .i64 V))
    clear hst ox oy b1 b2 b3
    go_wp2_with (fail)
    try rw [hV]
    refine (q1.out _ hQl.out hQo.out _ hZ2.out.bl _ c1 (hK1.out.row hZ2.out.a)).mono ?_
    rintro e w5 ⟨rfl, hb⟩
    replace hZ2 := Lib.hid (hZ2.out.bel hb)
    clear hb q1
    go_wp2_with (fail)
    refine (q2.out _ hRl2.out hRo2.out w5 hZ2.out.bl _ c2 (hK2.out.row hZ2.out.b)).mono ?_
    rintro e w6 ⟨rfl, hb⟩
    replace hZ2 := Lib.hid (hZ2.out.bel hb)
    clear hb q2
    go_wp2_with (fail)
    go_returns
    exact ⟨rfl, hZ2.out.bl⟩
  · have hst := step_mod (f := x.fault) 1 22 (by decide) (by decide) (by decide) ox.1.1 ox.1.2
    obtain ⟨V, hV⟩ : ∃ V, (wrap64 (x.fault + 1)).tmod 22 = V := ⟨_, rfl⟩
    rw [hV] at hst
    have hok1 : puOk { x with fault := V } = true := rightP_iff.2 ⟨⟨hst.1, hst.2.1⟩, ox.2⟩
    have hok2 : prOk { y with fault := V } = true := prOk_iff.2 ⟨⟨⟨hst.1, hst.2.1⟩, oy.1.2⟩, oy.2⟩
    have hdf1 : decide (x = { x with fault := V }) = false := decide_eq_false (fun e => hst.2.2 (congrArg Pu.fault e))
    have hdf2 : decide (y = { y with fault := V }) = false := decide_eq_false (fun e => hst.2.2 (b2.symm.trans (congrArg Pr.fault e)))
    have hQl : Hid ((P.set i { x with fault := V }).length = m) := by show _ = _; rw [List.length_set]; exact hPl.out
    have hRl2 : Hid ((R.set i { y with fault := V }).length = m) := by show _ = _; rw [List.length_set]; exact hRl.out
    have hQo : Hid ((P.set i { x with fault := V }).all puOk = true) := Lib.hid (all_set hPo.out hok1)
    have hRo2 : Hid ((R.set i { y with fault := V }).all prOk = true) := Lib.hid (all_set hRo.out hok2)
    have hSU := txP_set (by rw [hPl.out]; exact hm32) hPo.out hx.out hok1
    have hTV := txR_set (by rw [hRl.out]; exact hm32) hRo.out hy.out hok2
    rw [hdf1] at hSU
    rw [hdf2] at hTV
    clear hok1 hok2 hdf1 hdf2
    have hK1 := Lib.hid (hC1.out.putFault hx.out V)
    have hK2 := Lib.hid (hC2.out.putFault hy.out V)
    have hZ2 := Lib.hid ((hZ.out.put1 hg1.out hne.out (i * 3 + 1) (.int .i64 V)).put2 hg2.out hne.out (i * 5 + 2) (.int .i64 V))
    clear hst ox oy b1 b2 b3
    go_wp2_with (fail)
    try rw [hV]
    refine (q1.out _ hQl.out hQo.out _ hZ2.out.bl _ c1 (hK1.out.row hZ2.out.a)).mono ?_
    rintro e w5 ⟨rfl, hb⟩
    replace hZ2 := Lib.hid (hZ2.out.bel hb)
    clear hb q1
    go_wp2_with (fail)
    refine (q2.out _ hRl2.out hRo2.out w5 hZ2.out.bl _ c2 (hK2.out.row hZ2.out.b)).mono ?_
    rintro e w6 ⟨rfl, hb⟩
    replace hZ2 := Lib.hid (hZ2.out.bel hb)
    clear hb q2
    go_wp2_with (fail)
    go_returns
    exact ⟨rfl, hZ2.out.bl⟩
  · have hok1 : puOk { x with out := tx } = true := rightP_iff.2 ⟨ox.1, ox.2.1, ox.2.2.1, by show tx.size ≤ 65536; omega⟩
    have hok2 : prOk { y with log := tx } = true := prOk_iff.2 ⟨⟨oy.1.1, oy.1.2.1, oy.1.2.2.1, by show tx.size ≤ 65536; omega⟩, oy.2⟩
    have hK1 := Lib.hid (hC1.out.putOut hx.out tx)
    have hK2 := Lib.hid (hC2.out.putLog hy.out tx)
    have hZ2 := Lib.hid ((hZ.out.put1 hg1.out hne.out (i * 3 + 0) (.string tx)).put2 hg2.out hne.out (i * 5 + 4) (.string tx))
    simp only [Nat.add_zero] at hZ2 hK1
    by_cases hsm : x.out = tx
    · have hdf1 : decide (x = { x with out := tx }) = true := decide_eq_true (by rw [← hsm])
      have hdf2 : decide (y = { y with log := tx }) = true := decide_eq_true (by rw [← hsm, ← b3])
      have hteq : (tx.toList == x.out.toList) = true := by rw [hsm]; simp
      have hQl : Hid ((P.set i { x with out := tx }).length = m) := by show _ = _; rw [List.length_set]; exact hPl.out
      have hRl2 : Hid ((R.set i { y with log := tx }).length = m) := by show _ = _; rw [List.length_set]; exact hRl.out
      have hQo : Hid ((P.set i { x with out := tx }).all puOk = true) := Lib.hid (all_set hPo.out hok1)
      have hRo2 : Hid ((R.set i { y with log := tx }).all prOk = true) := Lib.hid (all_set hRo.out hok2)
      have hSU := txP_set (by rw [hPl.out]; exact hm32) hPo.out hx.out hok1
      have hTV := txR_set (by rw [hRl.out]; exact hm32) hRo.out hy.out hok2
      rw [hdf1] at hSU
      rw [hdf2] at hTV
      clear hok1 hok2 hdf1 hdf2
      replace hsm := Lib.hid hsm
      clear ox oy b1 b2 b3
      go_wp2_with (fail)
      refine (q1.out _ hQl.out hQo.out _ hZ2.out.bl _ c1 (hK1.out.row hZ2.out.a)).mono ?_
      rintro e w5 ⟨rfl, hb⟩
      replace hZ2 := Lib.hid (hZ2.out.bel hb)
      clear hb q1
      go_wp2_with (fail)
      refine (q2.out _ hRl2.out hRo2.out w5 hZ2.out.bl _ c2 (hK2.out.row hZ2.out.b)).mono ?_
      rintro e w6 ⟨rfl, hb⟩
      replace hZ2 := Lib.hid (hZ2.out.bel hb)
      clear hb q2
      go_wp2_with (fail)
      go_returns
      exact ⟨rfl, hZ2.out.bl⟩
    · have hdf1 : decide (x = { x with out := tx }) = false := decide_eq_false (fun e => hsm (congrArg Pu.out e))
      have hdf2 : decide (y = { y with log := tx }) = false := decide_eq_false (fun e => hsm (b3.symm.trans (congrArg Pr.log e)))
      have hteq : (tx.toList == x.out.toList) = false := by
        rw [Lib.toList_data, Lib.toList_data]
        simp only [beq_eq_false_iff_ne, ne_eq]
        exact fun e => hsm (ba_ext e).symm
      have hQl : Hid ((P.set i { x with out := tx }).length = m) := by show _ = _; rw [List.length_set]; exact hPl.out
      have hRl2 : Hid ((R.set i { y with log := tx }).length = m) := by show _ = _; rw [List.length_set]; exact hRl.out
      have hQo : Hid ((P.set i { x with out := tx }).all puOk = true) := Lib.hid (all_set hPo.out hok1)
      have hRo2 : Hid ((R.set i { y with log := tx }).all prOk = true) := Lib.hid (all_set hRo.out hok2)
      have hSU := txP_set (by rw [hPl.out]; exact hm32) hPo.out hx.out hok1
      have hTV := txR_set (by rw [hRl.out]; exact hm32) hRo.out hy.out hok2
      rw [hdf1] at hSU
      rw [hdf2] at hTV
      clear hok1 hok2 hdf1 hdf2
      replace hsm := Lib.hid hsm
      clear ox oy b1 b2 b3
      go_wp2_with (fail)
      refine (q1.out _ hQl.out hQo.out _ hZ2.out.bl _ c1 (hK1.out.row hZ2.out.a)).mono ?_
      rintro e w5 ⟨rfl, hb⟩
      replace hZ2 := Lib.hid (hZ2.out.bel hb)
      clear hb q1
      go_wp2_with (fail)
      refine (q2.out _ hRl2.out hRo2.out w5 hZ2.out.bl _ c2 (hK2.out.row hZ2.out.b)).mono ?_
      rintro e w6 ⟨rfl, hb⟩
      replace hZ2 := Lib.hid (hZ2.out.bel hb)
      clear hb q2
      go_wp2_with (fail)
      go_returns
      exact ⟨rfl, hZ2.out.bl⟩
  · have hst := step_mod (f := x.fuel) 7 1000001 (by decide) (by decide) (by decide) ox.2.1 (by omega)
    obtain ⟨V, hV⟩ : ∃ V, (wrap64 (x.fuel + 7)).tmod 1000001 = V := ⟨_, rfl⟩
    rw [hV] at hst
    have hok1 : puOk { x with fuel := V } = true := rightP_iff.2 ⟨ox.1, hst.1, by show V ≤ 1000000; omega, ox.2.2.2⟩
    have hok2 : prOk { y with said := !y.said, points := 0 } = true := prOk_iff.2 ⟨oy.1, Int.le_refl 0, (by decide : (0 : Int) ≤ 100), .inr rfl⟩
    have hdf1 : decide (x = { x with fuel := V }) = false := decide_eq_false (fun e => hst.2.2 (congrArg Pu.fuel e))
    have hdf2 : decide (y = { y with said := !y.said, points := 0 }) = false := decide_eq_false (fun e => by have h2 := congrArg Pr.said e; cases h3 : y.said <;> rw [h3] at h2 <;> cases h2)
    have hQl : Hid ((P.set i { x with fuel := V }).length = m) := by show _ = _; rw [List.length_set]; exact hPl.out
    have hRl2 : Hid ((R.set i { y with said := !y.said, points := 0 }).length = m) := by show _ = _; rw [List.length_set]; exact hRl.out
    have hQo : Hid ((P.set i { x with fuel := V }).all puOk = true) := Lib.hid (all_set hPo.out hok1)
    have hRo2 : Hid ((R.set i { y with said := !y.said, points := 0 }).all prOk = true) := Lib.hid (all_set hRo.out hok2)
    have hSU := txP_set (by rw [hPl.out]; exact hm32) hPo.out hx.out hok1
    have hTV := txR_set (by rw [hRl.out]; exact hm32) hRo.out hy.out hok2
    rw [hdf1] at hSU
    rw [hdf2] at hTV
    clear hok1 hok2 hdf1 hdf2
    have hK1 := Lib.hid (hC1.out.putFuel hx.out V)
    have hK2 : Hid (PrCur ((C2.setIfInBounds (i * 5 + 1) (.bool !y.said)).setIfInBounds (i * 5 + 0) (.int .i64 0)) (R.set i { y with said := !y.said, points := 0 })) := by
      have h1 := hC2.out.putSaid hy.out (!y.said)
      have h2 := h1.putPoints (x := { y with said := !y.said }) (by rw [List.getElem?_set_self (List.getElem?_eq_some_iff.1 hy.out).1]) 0
      rw [List.set_set] at h2
      exact h2
    have hZ2 := Lib.hid (((hZ.out.put1 hg1.out hne.out (i * 3 + 2) (.int .i64 V)).put2 hg2.out hne.out (i * 5 + 1) (.bool !y.said)).put2 hg2.out hne.out (i * 5 + 0) (.int .i64 0))
    have hcp : (w4.setCell ⟨g1, i * 3 + 2, none⟩ (.int .i64 V)).cell? ⟨g2, i * 5, none⟩ = some (.int .i64 y.points) := by
      rw [World.cell?_setCell_other _ _ _ _ (by intro e; injection e with e; first | exact hne.out e | exact hne.out e.symm)]
      exact y0
    simp only [Nat.add_zero] at hZ2 hK2
    clear hst ox oy b1 b2 b3
    go_wp2_with (fail)
    try rw [hV]
    refine (q1.out _ hQl.out hQo.out _ hZ2.out.bl _ c1 (hK1.out.row hZ2.out.a)).mono ?_
    rintro e w5 ⟨rfl, hb⟩
    replace hZ2 := Lib.hid (hZ2.out.bel hb)
    clear hb q1
    go_wp2_with (fail)
    refine (q2.out _ hRl2.out hRo2.out w5 hZ2.out.bl _ c2 (hK2.out.row hZ2.out.b)).mono ?_
    rintro e w6 ⟨rfl, hb⟩
    replace hZ2 := Lib.hid (hZ2.out.bel hb)
    clear hb q2
    go_wp2_with (fail)
    go_returns
    exact ⟨rfl, hZ2.out.bl⟩
end Go.Proofs.YtbhgjjicmbbjaaaDoor
