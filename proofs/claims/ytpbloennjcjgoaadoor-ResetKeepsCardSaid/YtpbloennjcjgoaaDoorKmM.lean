import Derived.Test.YtpbloennjcjgoaaDoorDcG
import Derived.Sort.QuietIn
import Derived.Laws.StructEq
import Derived.Stop.RegionWithIn
namespace Go.Proofs.YtpbloennjcjgoaaDoor
open Go.RowKit
set_option linter.unusedVariables false
set_option linter.unusedSimpArgs false
/-! PLAIN: what Create lays is read back -/
theorem fill_out (n : Nat) : ∀ (B : List UInt8) (h i : Nat), (i < h ∨ h + n ≤ i) → (fillN B h n).getD i 0 = B.getD i 0 := by
  induction n with
  | zero => intro B h i _; rfl
  | succ n ih =>
    intro B h i hi
    rw [fillN, ih _ _ _ (by omega), getD_set, if_neg (by omega)]
theorem lay_out (cs : List UInt8) : ∀ (B : List UInt8) (a i : Nat), (i < a ∨ a + cs.length ≤ i) → (layN B a cs).getD i 0 = B.getD i 0 := by
  induction cs with
  | nil => intro B a i _; rfl
  | cons x cs ih =>
    intro B a i hi
    simp only [List.length_cons] at hi
    rw [layN, ih _ _ _ (by omega), getD_set, if_neg (by omega)]
theorem lay_in (cs : List UInt8) : ∀ (B : List UInt8) (a j : Nat), j < cs.length → a + cs.length ≤ B.length → (layN B a cs).getD (a + j) 0 = cs.getD j 0 := by
  induction cs with
  | nil => intro B a j hj; simp at hj
  | cons x cs ih =>
    intro B a j hj hl
    simp only [List.length_cons] at hj hl
    rw [layN]
    cases j with
    | zero => rw [lay_out _ _ _ _ (by omega), Nat.add_zero, getD_set, if_pos ⟨rfl, by omega⟩]; rfl
    | succ j =>
      rw [show a + (j + 1) = a + 1 + j by omega, ih _ _ _ (by omega) (by rw [List.length_set]; omega)]
      rfl
theorem crB_len (B : List UInt8) (h l : Nat) (nm : ByteArray) (hl : upN h + 8 ≤ B.length) : (crB B h l nm).length = B.length := by
  unfold crB
  rw [fillN_len, layN_len, List.length_set, splice_len _ _ _ (by rw [fillN_len, by8_length]; exact hl), fillN_len]
theorem size_data (nm : ByteArray) : nm.data.toList.length = nm.size := rfl
/-- what lies ahead of where it begins -/
theorem crB_lo (B : List UInt8) (h l : Nat) (nm : ByteArray) (hl : upN h + 8 ≤ B.length) (i : Nat) (hi : i < h) : (crB B h l nm).getD i 0 = B.getD i 0 := by
  have hu := upN_le h
  unfold crB
  rw [fill_out _ _ _ _ (by omega), lay_out _ _ _ _ (by omega), getD_set, if_neg (by omega), getD_lo _ _ _ _ (by rw [fillN_len, by8_length]; exact hl) (by omega), fill_out _ _ _ _ (by omega)]
theorem crB_cel (B : List UInt8) (h l : Nat) (nm : ByteArray) (hl : upN h + 8 ≤ B.length) (hl63 : l < 9223372036854775808) : cel (crB B h l nm) (upN h) = (l : Int) := by
  have hu := upN_le h
  rw [cel_congr (crB B h l nm) (by8 l) (upN h) 0 (fun k hk => by
    unfold crB
    rw [fill_out _ _ _ _ (by omega), lay_out _ _ _ _ (by omega), getD_set, if_neg (by omega), getD_in _ _ _ _ (by rw [fillN_len, by8_length]; exact hl) (by omega) (by rw [by8_length]; omega)]
    congr 1; omega)]
  exact cel_by8 _ (by unfold isI; omega)
theorem crB_tag (B : List UInt8) (h l : Nat) (nm : ByteArray) (hl : upN h + 9 ≤ B.length) : (crB B h l nm).getD (upN h + 8) 0 = UInt8.ofNat (nm.size + 32) := by
  unfold crB
  rw [fill_out _ _ _ _ (by omega), lay_out _ _ _ _ (by omega), getD_set, if_pos ⟨rfl, by rw [splice_len _ _ _ (by rw [fillN_len, by8_length]; omega), fillN_len]; omega⟩]
theorem crB_name (B : List UInt8) (h l : Nat) (nm : ByteArray) (hl : upN h + 9 + nm.size ≤ B.length) : rowL (crB B h l nm) (upN h + 9) nm.size = nm.data.toList := by
  have hlen := crB_len B h l nm (by omega)
  refine list_ext _ _ (by rw [rowL_len _ _ _ (by rw [hlen]; exact hl), size_data]) (fun i hi => ?_)
  rw [rowL_len _ _ _ (by rw [hlen]; exact hl)] at hi
  unfold rowL
  rw [getD_drop _ _ _ _ hi]
  unfold crB
  rw [fill_out _ _ _ _ (by omega), show upN h + 8 + 1 = upN h + 9 by omega, lay_in _ _ _ _ (by rw [size_data]; exact hi) (by rw [List.length_set, splice_len _ _ _ (by rw [fillN_len, by8_length]; omega), fillN_len, size_data]; exact hl)]
theorem tag_bits (n : Nat) (h1 : 1 ≤ n) (h2 : n ≤ 31) : (UInt8.ofNat (n + 32)).toNat = n + 32 := by
  rw [UInt8.toNat_ofNat']; omega
/-- the word laid, hidden, leads to the latest one before it -/
theorem head_cr (B : List UInt8) (f y h l : Nat) (nm : ByteArray) (h1 : 1 ≤ nm.size) (h2 : nm.size ≤ 31) (hf : f ≤ h) (hy : ¬ y < upN h + (8 + upN (1 + nm.size))) (hB : y ≤ B.length) (hl63 : l < 9223372036854775808) :
    headP (crB B h l nm) f y (upN h : Nat) = some (⟨nm, upN h, crH h nm.size, false, true, false⟩, (l : Int)) := by
  have hu := upN_le h
  have hv := upN_le (1 + nm.size)
  have e : upN (upN h + 9 + nm.size) = upN h + (8 + upN (1 + nm.size)) := by unfold upN; omega
  have ht := crB_tag B h l nm (by omega)
  have hn := tag_bits nm.size h1 h2
  have hm : (nm.size + 32) % 32 = nm.size := by omega
  unfold headP
  rw [if_pos ⟨by omega, by omega, by omega⟩]
  simp only [Int.toNat_natCast]
  rw [ht, hn, hm, if_pos ⟨by omega, by rw [e]; omega⟩, crB_cel B h l nm (by omega) hl63]
  unfold wdB
  rw [hn, hm, crB_name B h l nm (by omega)]
  have b1 : ((nm.size + 32) / 64 % 2 == 1) = false := by rw [show (nm.size + 32) / 64 = 0 by omega]; rfl
  have b2 : ((nm.size + 32) / 32 % 2 == 1) = true := by rw [show (nm.size + 32) / 32 = 1 by omega]; rfl
  have b3 : ((nm.size + 32) / 128 == 1) = false := by rw [show (nm.size + 32) / 128 = 0 by omega]; rfl
  rw [b1, b2, b3]
  rfl
/-- the same word, shown -/
theorem shown_tag (n : Nat) (h1 : 1 ≤ n) (h2 : n ≤ 31) : (mkU 0 (UInt8.ofNat (n + 32))).toNat = n := by
  have : ∀ k : Fin 32, 1 ≤ k.val → (mkU 0 (UInt8.ofNat (k.val + 32))).toNat = k.val := by decide
  exact this ⟨n, by omega⟩ h1
theorem head_sh (B : List UInt8) (f y h l : Nat) (nm : ByteArray) (h1 : 1 ≤ nm.size) (h2 : nm.size ≤ 31) (hf : f ≤ h) (hf0 : 0 < f) (hy : ¬ y < upN h + (8 + upN (1 + nm.size))) (hB : y ≤ B.length) (hl63 : l < 9223372036854775808) :
    headP (mkB 0 y (upN h) false (crB B h l nm)) f y (upN h : Nat) = some (⟨nm, upN h, crH h nm.size, false, false, false⟩, (l : Int)) := by
  have hu := upN_le h
  have hv := upN_le (1 + nm.size)
  have e : upN (upN h + 9 + nm.size) = upN h + (8 + upN (1 + nm.size)) := by unfold upN; omega
  have ht := crB_tag B h l nm (by omega)
  have hlen := crB_len B h l nm (by omega)
  have hn := shown_tag nm.size h1 h2
  have hm : nm.size % 32 = nm.size := by omega
  have hmk : mkB 0 y (upN h) false (crB B h l nm) = (crB B h l nm).set (upN h + 8) (mkU 0 (UInt8.ofNat (nm.size + 32))) := by
    unfold mkB
    rw [if_neg (by simp; omega), ht]
  have ht2 : ((crB B h l nm).set (upN h + 8) (mkU 0 (UInt8.ofNat (nm.size + 32)))).getD (upN h + 8) 0 = mkU 0 (UInt8.ofNat (nm.size + 32)) := by
    rw [getD_set, if_pos ⟨rfl, by omega⟩]
  have hc2 : cel ((crB B h l nm).set (upN h + 8) (mkU 0 (UInt8.ofNat (nm.size + 32)))) (upN h) = (l : Int) := by
    rw [← crB_cel B h l nm (by omega) hl63]
    exact cel_congr _ _ _ _ (fun k hk => by rw [getD_set, if_neg (by omega)])
  have hr2 : rowL ((crB B h l nm).set (upN h + 8) (mkU 0 (UInt8.ofNat (nm.size + 32)))) (upN h + 9) nm.size = nm.data.toList := by
    rw [← crB_name B h l nm (by omega)]
    refine list_ext _ _ (by rw [rowL_len _ _ _ (by rw [List.length_set]; omega), rowL_len _ _ _ (by omega)]) (fun i hi => ?_)
    rw [rowL_len _ _ _ (by rw [List.length_set]; omega)] at hi
    unfold rowL
    rw [getD_drop _ _ _ _ hi, getD_drop _ _ _ _ hi, getD_set, if_neg (by omega)]
  rw [hmk]
  unfold headP
  rw [if_pos ⟨by omega, by omega, by omega⟩]
  simp only [Int.toNat_natCast]
  rw [ht2, hn, hm, if_pos ⟨by omega, by rw [e]; omega⟩, hc2]
  unfold wdB
  rw [hn, hm, hr2]
  have b1 : (nm.size / 64 % 2 == 1) = false := by rw [show nm.size / 64 = 0 by omega]; rfl
  have b2 : (nm.size / 32 % 2 == 1) = false := by rw [show nm.size / 32 = 0 by omega]; rfl
  have b3 : (nm.size / 128 == 1) = false := by rw [show nm.size / 128 = 0 by omega]; rfl
  rw [b1, b2, b3]
  rfl
end Go.Proofs.YtpbloennjcjgoaaDoor

namespace Go.Proofs.YtpbloennjcjgoaaDoor
open Go.RowKit Go.Shelf
attribute [local go_sem] Oper.semAt_some
set_option linter.unusedVariables false
set_option linter.unusedSimpArgs false
/-! chapter 16: lemmas for the ranges (from DcP), plain ones (from DcM) -/
theorem own_bk {β : Type} (k : Nat) (t : TypeId) (vs : Array Value) : Own (fun (_ : β) W => Bk W k t vs) := fun s A B row hs hg hr => by
  refine Bk.grown hs hg ?_
  intro e
  obtain ⟨o, ho, hc⟩ := hr k e.symm
  unfold Bk at hs
  rw [hs] at ho
  injection ho with ho
  subst ho
  cases hc
theorem mkB_len (k y l : Nat) (c : Bool) (B : List UInt8) : (mkB k y l c B).length = B.length := by
  unfold mkB
  split
  · rfl
  · rw [List.length_set]
theorem mkB_lo (k y l : Nat) (c : Bool) (B : List UInt8) (i : Nat) (hi : i < l + 8) : (mkB k y l c B).getD i 0 = B.getD i 0 := by
  unfold mkB
  split
  · rfl
  · rw [getD_set, if_neg (by omega)]
theorem row_ne {W : World} {base n size k : Nat} {e t : TypeId} {v : Value} {xs : List Value} {vs : Array Value} (h : W.ownsRow base e size v n xs) (hb : Bk W k t vs) (ht : t ≠ e) : v.ownBlock ≠ some k := by
  intro hk
  obtain ⟨_, h | h⟩ := h
  · rw [h.1] at hk; cases hk
  · obtain ⟨g, cap, cur, rfl, _, hc, _⟩ := h
    have hg : g = k := by injection hk
    subst hg
    unfold Bk at hb
    rw [hc] at hb
    injection hb with hb
    injection hb with _ hb
    exact ht hb.symm
theorem Onb.row {b d : Nat} {x y : World} {base n size : Nat} {e : TypeId} {v : Value} {xs : List Value} (h : Onb b d x y) (hr : x.ownsRow base e size v n xs) (h1 : v.ownBlock ≠ some b) (h2 : v.ownBlock ≠ some d) : y.ownsRow base e size v n xs := by
  refine ⟨hr.1, ?_⟩
  rcases hr.2 with hn0 | ⟨k, cap, cur, rfl, hb, hgg, rest⟩
  · exact .inl hn0
  · exact .inr ⟨k, cap, cur, rfl, hb, (h.block k (Array.getElem?_eq_some_iff.1 hgg).1 (fun e => h1 (by simp [Value.ownBlock, e])) (fun e => h2 (by simp [Value.ownBlock, e]))).trans hgg, rest⟩
theorem Dc.grown {W W' : World} {d p b r f y h l : Nat} {L : Lay} {B : List UInt8} {o s : Bool} {row : Option Nat} (D : Dc W d p b L r f y B o s h l) (hg : W.grownBy W' row) (h1 : row ≠ some p) (h2 : row ≠ some b) (h3 : row ≠ some d) : Dc W' d p b L r f y B o s h l :=
  ⟨⟨D.im.ok, D.im.st.grown hg h1.symm, D.im.by_.grown hg h2.symm, D.im.len⟩, D.bk.grown hg h3.symm, D.rr, D.fx, D.yx, D.lo, D.hi, D.la⟩
theorem Dc.far {W : World} {d p b r f y h l : Nat} {L : Lay} {B : List UInt8} {o s : Bool} (D : Dc W d p b L r f y B o s h l) {q : Addr} (h1 : p ≠ q.block) (h2 : b ≠ q.block) (h3 : d ≠ q.block) (v : Value) : Dc (W.setCell q v) d p b L r f y B o s h l :=
  ⟨D.im.far h1 h2 v, D.bk.other h3 v, D.rr, D.fx, D.yx, D.lo, D.hi, D.la⟩
theorem wpListIn_append_run {F : Fence} {n : Nat} {P : Program} {w w2 : World} {ops : Array Oper} {rest : List Oper} {o : Oper} {a : Act} {Q : Exit → Act → World → Prop} (hgd : o.guard = none) (s x : Operand) (t : TypeId)
    (ho : o.op = .call { callee := .builtin .append, args := #[s, x], argTypes := #[t, t] }) (v0 v1 V : Value) (hs : a.eval s = v0) (hx : a.eval x = V)
    (hrun : (Builtin.append_ #[t, t] o.type #[v0, V]).run P w = .ok v1 w2) (h : wpListIn F n P ops Q rest (a.put o.dst v1) w2) : wpListIn F n P ops Q (o :: rest) a w := by
  refine wpListIn_plain hgd fun K hK => ?_
  unfold Oper.wpIn
  refine ⟨?_, ?_⟩
  · simp [Oper.about, ho, resolve, Target.leads, Sem.run_pure]
  · rw [Oper.semAt_plain F _ _ (by rw [ho]; intro c hc'; cases hc')]
    simp only [execOp, ho, resolve, invoke, builtin, Sem.run_bind, Sem.run_pure, Result.andThen_ok, List.map_toArray, List.map_cons, List.map_nil, hs, hx, hrun]
    exact hK _ _ h
/-! a quiet region within a round -/
theorem wpIn_round {F : Fence} {n : Nat} {P : Program} {o : Oper} {a : Act} {w : World} {K : Act → World → Prop} {Q : Exit → Act → World → Prop} (l : Nat) (hd : ∀ c, o.op ≠ .defer c) (h : o.wpIn F n P a w K Q) : o.wpIn (F.inRound l) n P a w K Q := by
  refine ⟨h.1, ?_⟩
  have h2 := h.2
  rw [Oper.semAt_plain F _ _ hd] at h2
  rw [Oper.semAt_plain (F.inRound l) _ _ hd]
  exact h2
theorem wpAnyIn_round {F : Fence} {n : Nat} {P : Program} {md : Region.Mode} {ops : Array Oper} {Q : Exit → Act → World → Prop} (l : Nat) (hd : ∀ (i : Nat) (o : Oper), ops[i]? = some o → ∀ c, o.op ≠ .defer c) : ∀ (fuel : Nat) (listed : Array Bool) (a : Act) (w : World), wpAnyIn F n P md ops Q fuel listed a w → wpAnyIn (F.inRound l) n P md ops Q fuel listed a w
  | 0, _, _, _, h => h
  | fuel + 1, listed, a, w, h => ⟨h.1, fun i hi => by
    have h2 := h.2 i hi
    have h3 : wpOpIn F n P ops Q i (wpAnyIn (F.inRound l) n P md ops Q fuel (listed.setIfInBounds i true)) a w := wpOpIn_mono (fun a' w' k => wpAnyIn_round l hd fuel _ a' w' k) h2
    unfold wpOpIn at h3 ⊢
    cases ho : ops[i]? with
    | none => rw [ho] at h3; exact h3
    | some o =>
      rw [ho] at h3
      simp only at h3 ⊢
      split
      · rename_i hw; rw [if_pos hw] at h3; exact wpIn_round l (hd i o ho) h3
      · rename_i hw; rw [if_neg hw] at h3; exact h3⟩
theorem region_round {F : Fence} {n : Nat} {P : Program} {id : Nat} {Q : Exit → Act → World → Prop} {a : Act} {w : World} {ops : List Oper} {l : Nat} (hro : F.round = none) (hd : (ops.all fun o => match o.op with | .defer _ => false | _ => true) = true) (hm : P.follows .mixedOrders = true) (hB : Region.lexB .any ops.toArray = true)
    (h : wpQuietIn F n P ops.toArray (fun w' => ∃ n, w' = w.drewN n) (fun a' => ∀ w', (∃ n, w' = w.drewN n) → Q .normal a' w') ops a) : (Code.region id ops.toArray true).wpIn (F.inRound l) n P Q a w := by
  have hd2 : ∀ (i : Nat) (o : Oper), ops.toArray[i]? = some o → ∀ c, o.op ≠ .defer c := fun i o ho c e => by
    have hm := List.all_eq_true.1 hd o (by simp at ho; exact List.mem_of_getElem? ho)
    rw [e] at hm
    cases hm
  simp only [Region.lexB, Bool.and_eq_true] at hB
  refine wpIn_region_any hm (wpAnyIn_round l hd2 _ _ _ _ (wpAnyIn_of_quiet (C := fun w' => ∃ n, w' = w.drewN n) (Q := fun a' => ∀ w', (∃ n, w' = w.drewN n) → Q .normal a' w') hro (fun _ w' hw' h => h w' hw') _ _ _ _ ⟨1, rfl⟩ ?_))
  have := wpAnyQIn_lex (F := F) (n := n) (C := fun w' => ∃ n, w' = w.drewN n) (md := .any) hB.1 ops 0 (Array.replicate ops.length false) a (by simp) (by simpa using hB.2) (by simpa using h)
  simpa using this
/-- a range over the words: the loop's variable lies in a box -/
theorem range_all {ps : Array Tmp} {g : Operand} {assign body : Code} {Q : Exit → Act → World → Prop} {a : Act} {W0 : World} {d p b r f y h l : Nat} {L : Lay} {B : List UInt8} {o s : Bool} (n p0 v0 bx : Nat) (hn : 2 ≤ n) (X : Nat → Prop) (hX : ∀ k, X k → k < W0.heap.size) (hps : ps = #[p0])
    (hg : a.eval g = .func (.func 54) #[] #[.pointer (some ⟨bx, 0, none⟩)])
    (D : Dc W0 d p b L r f y B o s h l) (hbx : Bk W0 bx 45 #[.pointer (some ⟨d, 0, none⟩)])
    (I : List NW → World → Prop) (Ix : Code → List NW → World → Prop) (hI : OwnFrom W0.heap.size I) (hIx : ∀ c, OwnFrom W0.heap.size (Ix c)) (h0 : I [] W0)
    (hassign : ∀ (l : Nat) (pre : List NW) (x : NW) (W : World) (K : Act → World → Prop), I pre W → (∀ Bx W', W0.heap.size ≤ Bx → Bk W' Bx 72 (wdC x.1).toArray → KeepsFrom W0.heap.size W W' → Kc X W W' → I pre W' → K { tmps := (a.tmps.setIfInBounds p0 (wdV x.1)).setIfInBounds v0 (.pointer (some ⟨Bx, 0, none⟩)), defers := [] } W') →
      assign.wpIn (Fence.wide.inRound l) (n - 1 - 1) Tryd.prog (Exit.then K (fun _ _ _ => False)) { tmps := a.tmps.setIfInBounds p0 (wdV x.1), defers := [] } W)
    (hbody : ∀ (l' : Nat) (pre : List NW) (x : NW) (Bx : Nat) (W : World), W0.heap.size ≤ l' → W0.heap.size ≤ Bx → Bk W Bx 72 (wdC x.1).toArray → I pre W → pre.length < (walkP B f y l).length → body.wpIn (Fence.wide.inRound l') (n - 1 - 1) Tryd.prog (ownPostG W0.heap.size (Kc X) I Ix (pre ++ [x]) W) { tmps := (a.tmps.setIfInBounds p0 (wdV x.1)).setIfInBounds v0 (.pointer (some ⟨Bx, 0, none⟩)), defers := [] } W)
    (hdone : ∀ (D' : Nat) (xs : List NW) (W : World), W0.heap.size ≤ D' → xs.map (·.1) = walkP B f y l → I xs W → W.heap[D']? = some (.deferred (some [])) → Q .normal { a with defers := { target := .collected D', args := #[] } :: a.defers } W)
    (hstop : ∀ (D' : Nat) (c : Code) (pre : List NW) (W : World), W0.heap.size ≤ D' → pre.map (·.1) <+: walkP B f y l → Ix c pre W → W.heap[D']? = some (.deferred (some [])) → c.wpIn Fence.wide n Tryd.prog Q { a with defers := { target := .collected D', args := #[] } :: a.defers } W) :
    (Code.rangeFunc g ps assign body).wpIn Fence.wide n Tryd.prog Q a W0 := by
  subst hps
  refine wpIn_rangeFunc_ownH rfl (by omega) (gf := 54) (lb := #[.pointer (some ⟨bx, 0, none⟩)]) hg trivial (enters_of Tryd.func54 (by kernel_rfl) rfl)
    (all_stops (n - 1) (by omega) bx X hX D hbx) (fun {_ _ _} h k => h.t k) (fun W l o o' _ hl hc _ => Kc.b W l o o' hl hc) (Below.refl _ _) (fun _ => rfl)
    I Ix hI hIx h0
    (fun x a' W => ∃ Bx, W0.heap.size ≤ Bx ∧ Bk W Bx 72 (wdC x.1).toArray ∧ a' = { tmps := (a.tmps.setIfInBounds p0 (wdV x.1)).setIfInBounds v0 (.pointer (some ⟨Bx, 0, none⟩)), defers := [] })
    (fun x a' _ X Y row hs hg hr => by obtain ⟨Bx, e1, e2, e3⟩ := hs; exact ⟨Bx, e1, own_bk _ _ _ () X Y row e2 hg (fun r e => (hr r e).2), e3⟩)
    (fun l pre x W K hi hK => by
      have := hassign l pre x W K hi (fun Bx W' h1 h2 h3 h4 h5 => hK _ W' h3 h4 h5 ⟨Bx, h1, h2, rfl⟩)
      simpa using this) ?_ hdone hstop
  rintro l' pre x a' W h1 h2 h3 ⟨Bx, h4, h5, rfl⟩ h6
  exact hbody l' pre x Bx W h1 h4 h5 h3 h6
theorem own_row {β : Type} (base n size : Nat) (e : TypeId) (v : Value) (xs : List Value) : Own (fun (_ : β) W => W.ownsRow base e size v n xs) := fun s A B row hs hg hr => by
  refine ⟨hs.1, ?_⟩
  rcases hs.2 with hn0 | ⟨k, cap, cur, rfl, hb, hgg, rest⟩
  · exact .inl hn0
  · refine .inr ⟨k, cap, cur, rfl, hb, (hg.block k (Array.getElem?_eq_some_iff.1 hgg).1 (fun e => ?_)).trans hgg, rest⟩
    obtain ⟨o, ho, hc⟩ := hr k e.symm
    rw [hgg] at ho
    injection ho with ho
    subst ho
    cases hc
theorem own_dc {β : Type} (d p b : Nat) (L : Lay) (r f y : Nat) (B : List UInt8) (o s : Bool) (h l : Nat) : Own (fun (_ : β) W => Dc W d p b L r f y B o s h l) := fun q A A' row hs hg hr =>
  ⟨⟨hs.im.ok, own_bk _ _ _ q A A' row hs.im.st hg hr, own_bk _ _ _ q A A' row hs.im.by_ hg hr, hs.im.len⟩, own_bk _ _ _ q A A' row hs.bk hg hr, hs.rr, hs.fx, hs.yx, hs.lo, hs.hi, hs.la⟩
noncomputable def eqW (x y : Wd) : Bool := @decide (x = y) (Classical.propDecidable _)
theorem eqW_iff (x y : Wd) : eqW x y = true ↔ x = y := by unfold eqW; simp
theorem run_eqW (x y : Wd) (w : World) : (Op.equal 72 (wdV x) (wdV y)).run Tryd.prog w = .ok (eqW x y) w := by
  obtain ⟨a1, a2, a3, a4, a5, a6⟩ := x
  obtain ⟨b1, b2, b3, b4, b5, b6⟩ := y
  have e1 : a1 = b1 ↔ a1.toList = b1.toList := ⟨fun h => by rw [h], fun h => by
    rw [ByteArray.toList_eq, ByteArray.toList_eq] at h
    obtain ⟨⟨x⟩⟩ := a1
    obtain ⟨⟨y⟩⟩ := b1
    have h : x = y := h
    rw [h]⟩
  have hE : eqW ⟨a1, a2, a3, a4, a5, a6⟩ ⟨b1, b2, b3, b4, b5, b6⟩ = ((a1.toList == b1.toList) && (((a2 : Int) == b2) && (((a3 : Int) == b3) && ((a4 == b4) && ((a5 == b5) && (a6 == b6)))))) := by
    rw [Bool.eq_iff_iff, eqW_iff]
    simp only [Wd.mk.injEq, Bool.and_eq_true, beq_iff_eq, e1, Int.ofNat_inj]
  rw [hE]
  unfold wdV Op.equal Op.maxDepth
  have hd : (10000 : Nat) = 9998 + 1 + 1 := rfl
  rw [hd, run_equalIn_struct _ _ _ _ _ (by kernel_rfl) (by kernel_rfl)]
  simp [Op.eqFields, go_sem, Program.fieldsOf]
  repeat' split
  all_goals (rename_i h1; try simp [*])
theorem run_eqW1 (n1 n2 : ByteArray) (h1 h2 x1 x2 : Nat) (i1 i2 d1 d2 l1 l2 : Bool) (w : World) : (Op.equal 72 (.agg #[.string n1, .int .i64 h1, .int .i64 x1, .bool i1, .bool d1, .bool l1]) (.agg #[.string n2, .int .i64 h2, .int .i64 x2, .bool i2, .bool d2, .bool l2])).run Tryd.prog w = .ok (eqW ⟨n1, h1, x1, i1, d1, l1⟩ ⟨n2, h2, x2, i2, d2, l2⟩) w := run_eqW ⟨n1, h1, x1, i1, d1, l1⟩ ⟨n2, h2, x2, i2, d2, l2⟩ w
theorem run_eqW2 (n1 n2 : ByteArray) (h1 h2 x1 x2 : Nat) (i1 i2 d1 d2 l1 l2 : Bool) (w : World) : (Op.equalIn 10000 72 (.agg #[.string n1, .int .i64 h1, .int .i64 x1, .bool i1, .bool d1, .bool l1]) (.agg #[.string n2, .int .i64 h2, .int .i64 x2, .bool i2, .bool d2, .bool l2])).run Tryd.prog w = .ok (eqW ⟨n1, h1, x1, i1, d1, l1⟩ ⟨n2, h2, x2, i2, d2, l2⟩) w := run_eqW ⟨n1, h1, x1, i1, d1, l1⟩ ⟨n2, h2, x2, i2, d2, l2⟩ w
/-- what holds in the rounds of a range that counts down a row of words -/
structure Iw (w : World) (K0 cx lb q : Nat) (A2 : Option Addr) (c2 : Nat) (Xs Z : List Wd) (d p b : Nat) (L : Lay) (f y : Nat) (B : List UInt8) (h l : Nat) (pre : List NW) (W : World) : Prop where
  pfx : pre.map (·.1) <+: Z
  cnt : Bk W cx 3 #[.int .i64 ((Z.length - pre.length : Nat) : Int)]
  lst : Bk W lb 67 #[.slice A2 Xs.length c2]
  row : W.ownsRow w.heap.size 72 6 (.slice A2 Xs.length c2) Xs.length (wdsC Xs.reverse)
  res : Bk W q 4 #[.bool false]
  bel : Below w.heap.size w W
  dc : Dc W d p b L 3 f y B false false h l
  lo : K0 ≤ W.heap.size
section
variable {w W W' : World} {K0 cx lb q : Nat} {A2 : Option Addr} {c2 : Nat} {Xs Z : List Wd} {d p b : Nat} {L : Lay} {f y : Nat} {B : List UInt8} {h l : Nat} {pre : List NW}
theorem Iw.own (K : Nat) (hK : w.heap.size ≤ K) : OwnFrom K (Iw w K0 cx lb q A2 c2 Xs Z d p b L f y B h l) := fun s A A' row hs hg hr =>
  have hr2 := fun r e => (hr r e).2
  ⟨hs.pfx, own_bk _ _ _ s A A' row hs.cnt hg hr2, own_bk _ _ _ s A A' row hs.lst hg hr2, own_row _ _ _ _ _ _ s A A' row hs.row hg hr2, own_bk _ _ _ s A A' row hs.res hg hr2,
    ownFrom_below (Nat.le_refl _) hK s A A' row hs.bel hg hr, own_dc _ _ _ _ _ _ _ _ _ _ _ _ s A A' row hs.dc hg hr2, Nat.le_trans hs.lo hg.size⟩
theorem Iw.kept (hs : Iw w K0 cx lb q A2 c2 Xs Z d p b L f y B h l pre W) (hb : Below W.heap.size W W') : Iw w K0 cx lb q A2 c2 Xs Z d p b L f y B h l pre W' :=
  ⟨hs.pfx, hs.cnt.kept hb hs.cnt.lt, hs.lst.kept hb hs.lst.lt, own_below hs.row hb (Nat.le_refl _), hs.res.kept hb hs.res.lt, hs.bel.trans (hb.mono hs.bel.size), hs.dc.bel hb, Nat.le_trans hs.lo hb.size⟩
theorem Kc.of_set {W : World} (k : Nat) {q : Addr} (v : Value) (hq : q.block = k) : Kc (fun i => i = k) W (W.setCell q v) := ⟨by rw [World.size_setCell]; exact Nat.le_refl _, fun i o hi _ hx => (Below.heap_setCell W q v i (by rw [hq]; exact hx)).trans hi⟩
/-- the count is written -/
theorem Iw.put (hs : Iw w K0 cx lb q A2 c2 Xs Z d p b L f y B h l pre W) (hc : w.heap.size ≤ cx) (v : Value) : Bk (W.setCell ⟨cx, 0, none⟩ v) cx 3 #[v] ∧ Bk (W.setCell ⟨cx, 0, none⟩ v) lb 67 #[.slice A2 Xs.length c2] ∧
    (W.setCell ⟨cx, 0, none⟩ v).ownsRow w.heap.size 72 6 (.slice A2 Xs.length c2) Xs.length (wdsC Xs.reverse) ∧ Bk (W.setCell ⟨cx, 0, none⟩ v) q 4 #[.bool false] ∧ Below w.heap.size w (W.setCell ⟨cx, 0, none⟩ v) ∧ Dc (W.setCell ⟨cx, 0, none⟩ v) d p b L 3 f y B false false h l ∧ K0 ≤ (W.setCell ⟨cx, 0, none⟩ v).heap.size := by
  have n1 := hs.cnt.ne hs.lst (by decide)
  refine ⟨hs.cnt.put 0 v, hs.lst.other (p := ⟨cx, 0, none⟩) n1.symm _, ?_, hs.res.other (p := ⟨cx, 0, none⟩) (hs.cnt.ne hs.res (by decide)).symm _, hs.bel.setCell (p := ⟨cx, 0, none⟩) hc _,
    hs.dc.far (q := ⟨cx, 0, none⟩) (hs.cnt.ne hs.dc.im.st (by decide)).symm (hs.cnt.ne hs.dc.im.by_ (by decide)).symm (hs.cnt.ne hs.dc.bk (by decide)).symm _, by rw [World.size_setCell]; exact hs.lo⟩
  exact Onb.row (b := cx) (d := cx) (Onb.ofd ((Only.refl cx W).put 0 _)) hs.row (row_ne hs.row hs.cnt (by decide)) (row_ne hs.row hs.cnt (by decide))
theorem pre_snoc (hp : pre.map (·.1) <+: Z) (x : NW) (hx : Z[pre.length]? = some x.1) : (pre ++ [x]).map (·.1) <+: Z := by
  obtain ⟨t, ht⟩ := hp
  rw [← ht] at hx
  rw [List.getElem?_append_right (by simp)] at hx
  simp only [List.length_map, Nat.sub_self] at hx
  obtain ⟨t', rfl⟩ : ∃ t', t = x.1 :: t' := by
    cases t with
    | nil => simp at hx
    | cons a t' => simp at hx; subst hx; exact ⟨t', rfl⟩
  exact ⟨t', by rw [← ht]; simp⟩
theorem not_pre (x : NW) {z : Wd} (hz : Z[pre.length]? = some z) (hx : ¬ x.1 = z) : ¬ (pre ++ [x]).map (·.1) <+: Z := by
  rintro ⟨t, ht⟩
  apply hx
  rw [← ht] at hz
  simp at hz
  exact hz
/-- the row's cells at a word -/
theorem row_cell {K m : Nat} {Y : List Wd} (hX : Xs = Y ++ Z) (hs : W.ownsRow K 72 6 (.slice A2 Xs.length c2) Xs.length (wdsC Xs.reverse)) {z : Wd} (hz : Z[m]? = some z) : ∃ gq, A2 = some ⟨gq, 0, none⟩ ∧ ∀ j, j < 6 → W.cell? ⟨gq, (Z.length - (m + 1)) * 6 + j, none⟩ = (wdC z)[j]? := by
  obtain ⟨hlt, hzz⟩ := List.getElem?_eq_some_iff.1 hz
  have hxl : Xs.length = Y.length + Z.length := by rw [hX]; simp
  obtain ⟨gq, rfl⟩ : ∃ gq, A2 = some ⟨gq, 0, none⟩ := by
    rcases hs.2 with ⟨_, h0⟩ | ⟨q, cap, cur, e, _⟩
    · omega
    · injection e with e1 _ _; exact ⟨q, e1⟩
  refine ⟨gq, rfl, fun j hj => ?_⟩
  rw [hs.cellAt _ (by omega)]
  refine wdsC_at Xs.reverse (Z.length - (m + 1)) z ?_ j hj
  rw [hX, List.reverse_append, List.getElem?_append_left (by simp; omega), List.getElem?_reverse (by omega), ← hz]
  congr 1
  omega
end
end Go.Proofs.YtpbloennjcjgoaaDoor

namespace Go.Proofs.YtpbloennjcjgoaaDoor
open Go.RowKit Go.Shelf
attribute [local go_sem] Oper.semAt_some
set_option linter.unusedVariables false
set_option linter.unusedSimpArgs false
/-! a range over the words whose body appends to a slice of its own (made out of DcG's all_stops, DcP's range_all): the slice's block may be written, too -/
/-- the block that a slice variable stands on -/
def bkOf (lb : Nat) (W : World) : Option Nat := match W.cell? ⟨lb, 0, none⟩ with
  | some v => v.ownBlock
  | none => none
theorem bkOf_below {lb : Nat} {W W' : World} (h : Below W.heap.size W W') (hl : lb < W.heap.size) : bkOf lb W' = bkOf lb W := by
  unfold bkOf
  rw [h.cell (p := ⟨lb, 0, none⟩) hl]
/-- whatever cells lie, but those that may be written and the block that the variable stands on, lie as they lay; that block is the same, or a new one -/
def lbC (lb : Nat) (W : World) : Prop := ∃ o, W.heap[lb]? = some o ∧ o.isCells = true
theorem lbC.bel {lb : Nat} {W W' : World} (h : lbC lb W) (hb : Below W.heap.size W W') : lbC lb W' := by
  obtain ⟨o, h1, h2⟩ := h
  exact ⟨o, (hb.block lb (Array.getElem?_eq_some_iff.1 h1).1).trans h1, h2⟩
structure Kd (lb : Nat) (X : Nat → Prop) (a b : World) : Prop where
  size : a.heap.size ≤ b.heap.size
  on : lbC lb a → lbC lb b ∧ (∀ k o, a.heap[k]? = some o → o.isCells = true → ¬ X k → bkOf lb a ≠ some k → b.heap[k]? = some o) ∧ (bkOf lb b = bkOf lb a ∨ ∃ g, bkOf lb b = some g ∧ a.heap.size ≤ g)
theorem Kd.t {lb : Nat} {X : Nat → Prop} {a b c : World} (h : Kd lb X a b) (k : Kd lb X b c) : Kd lb X a c := by
  refine ⟨Nat.le_trans h.size k.size, fun hl => ?_⟩
  obtain ⟨p1, p2, p3⟩ := h.on hl
  obtain ⟨q1, q2, q3⟩ := k.on p1
  refine ⟨q1, fun i o hi ho hx hb => q2 i o (p2 i o hi ho hx hb) ho hx (fun e => ?_), ?_⟩
  · rcases p3 with h1 | ⟨g, h1, h2⟩
    · exact hb (h1.symm.trans e)
    · rw [h1] at e
      injection e with e
      have := (Array.getElem?_eq_some_iff.1 hi).1
      omega
  · rcases q3 with h1 | ⟨g, h1, h2⟩
    · rw [h1]; exact p3
    · exact .inr ⟨g, h1, Nat.le_trans h.size h2⟩
theorem Kd.b {lb : Nat} {X : Nat → Prop} (W : World) (l : Nat) (o o' : Obj) (h : W.heap[l]? = some o) (hc : o.isCells = false) : Kd lb X W (W.putObj l o') := by
  refine ⟨by simp, fun hl => ?_⟩
  obtain ⟨o2, h1, h2⟩ := hl
  have hne : lb ≠ l := by
    rintro rfl
    rw [h] at h1
    injection h1 with h1
    subst h1
    rw [hc] at h2
    cases h2
  have hk := (Kc.b (X := fun _ => False) W l o o' h hc).keep
  refine ⟨⟨o2, hk lb o2 h1 h2 (fun x => x), h2⟩, fun k o2 hk' ho _ _ => hk k o2 hk' ho (fun x => x), .inl ?_⟩
  have h3 := hk lb o2 h1 h2 (fun x => x)
  unfold bkOf World.cell?
  simp only
  rw [h1, h3]
theorem Kd.row {lb : Nat} {X : Nat → Prop} {a b : World} {base n size : Nat} {e : TypeId} {v : Value} {xs : List Value} (h : Kd lb X a b) (hl : lbC lb a) (hr : a.ownsRow base e size v n xs) (hx : ∀ g, v.ownBlock = some g → ¬ X g ∧ bkOf lb a ≠ some g) : b.ownsRow base e size v n xs := by
  refine ⟨hr.1, ?_⟩
  rcases hr.2 with hn0 | ⟨k, cap, cur, rfl, hb, hgg, rest⟩
  · exact .inl hn0
  · have hk := hx k (by simp [Value.ownBlock])
    exact .inr ⟨k, cap, cur, rfl, hb, (h.on hl).2.1 k _ hgg rfl hk.1 hk.2, rest⟩
theorem Kd.of_below {lb : Nat} {X : Nat → Prop} {a b : World} (h : Below a.heap.size a b) : Kd lb X a b := ⟨h.size, fun hl => ⟨hl.bel h, fun k o hk _ _ _ => (h.block k (Array.getElem?_eq_some_iff.1 hk).1).trans hk, .inl (bkOf_below h (by obtain ⟨o, h1, _⟩ := hl; exact (Array.getElem?_eq_some_iff.1 h1).1))⟩⟩
section
variable {w : World} {d p b r f y h l : Nat} {L : Lay} {B : List UInt8} {o s : Bool}
set_option maxRecDepth 100000 in
set_option maxHeartbeats 4000000 in
theorem all_stops2 (n : Nat) (hn : 1 ≤ n) (bx lb : Nat) (X : Nat → Prop) (hX : ∀ k, X k → k < w.heap.size) (hlb : Bk w lb 67 #[.slice none 0 0]) (D : Dc w d p b L r f y B o s h l) (hbx : Bk w bx 45 #[.pointer (some ⟨d, 0, none⟩)]) :
    SeqStopsK Fence.wide n Tryd.prog 54 #[.pointer (some ⟨bx, 0, none⟩)] (fun x : NW => #[wdV x.1]) (Kd lb X) (fun ys => ys.map (·.1) = walkP B f y l) (fun pre => pre.map (·.1) <+: walkP B f y l) (walkP B f y l).length w := fun q J Jx W hW hJ hJx hY h0 => by
  have D1 := D.bel hW
  have b1 := hbx.kept hW hbx.lt
  have l1 := hlb.kept hW hlb.lt
  have hlt := l1.lt
  have hwa := walk_any D1
  have hwl : (walkP B f y l).length ≤ 143360 := by have := walkP_len B f y l D.ok.2.2.1; have := D.la; have := D.ok; omega
  obtain ⟨ws, hws⟩ : ∃ ws, walkP B f y l = ws := ⟨_, rfl⟩
  obtain ⟨zs, hzs⟩ := exists_nw (walkP B f y l) (walkF_names B f y (l + 1) l)
  rw [hws] at hY hwa hwl hzs ⊢
  replace hzs := Lib.hid hzs
  have hc0 := b1.cell 0
  simp at hc0
  obtain ⟨m, hm⟩ : ∃ m, ws.length = m := ⟨_, rfl⟩
  rw [hm] at hwa hY hwl
  replace hwl := Lib.hid hwl
  replace hwa := Lib.hid hwa
  have hWz := hW.size
  have HX : Hid (∀ k, X k → k < W.heap.size) := fun k hk => Nat.lt_of_lt_of_le (hX k hk) hWz
  replace hY := Lib.hid hY
  replace hJ := Lib.hid hJ
  replace h0 := Lib.hid h0
  replace hm := Lib.hid hm
  replace l1 := Lib.hid l1
  replace hlt := Lib.hid hlt
  clear D D1 hbx b1 hws hX hWz hW hlb
  refine callsIn_of_wp Tryd.func54 rfl trivial ?_ rfl
  simp only [Tryd.ntmps54, List.size_toArray, List.length_cons, List.length_nil, Nat.reduceAdd, Nat.reduceSub, Array.replicate_succ, Array.replicate_zero, List.push_toArray, List.append_toArray, List.nil_append, List.cons_append]
  gi_wp2_with (refine ⟨trivial, ?_⟩; gi_at_call 55; refine (callsIn_wide.2 hwa.out).mono ?_; rintro e w1 ⟨A, c, rfl, hrow, hB1⟩)
  have hJ1 : J (zs.take 0) w1 := hJ.out _ _ _ none h0.out (grown_below hB1) (by simp)
  have hge : ∀ g, (Value.slice A m c).ownBlock = some g → ¬ X g := fun g hg hx => by
    have h1 := own_ge hrow g hg
    have := HX.out g hx
    omega
  replace hge := Lib.hid hge
  have hz1 := hB1.size
  obtain ⟨M, hM⟩ : ∃ M, w1.heap.size = M := ⟨_, rfl⟩
  have hgM : ∀ g, (Value.slice A m c).ownBlock = some g → g < M := fun g hg => by rw [← hM]; exact (hrow.lt g hg).2
  have hbk : ∀ g, bkOf lb w1 = some g → M ≤ g := fun g hg => by
    have := l1.out.kept hB1 hlt.out
    have c := this.cell 0
    simp at c
    unfold bkOf at hg
    rw [c] at hg
    simp [Value.ownBlock] at hg
  have hM1 : M ≤ w1.heap.size := Nat.le_of_eq hM.symm
  replace hgM := Lib.hid hgM
  replace hbk := Lib.hid hbk
  replace hM1 := Lib.hid hM1
  have hlC : Hid (lbC lb w1) := ⟨_, (hB1.block lb hlt.out).trans l1.out, rfl⟩
  clear hM
  replace hz1 := Lib.hid hz1
  clear hwa hB1 hc0
  gi_loopw [8] (fun i wr => ∃ k : Nat, i = .int .i64 k ∧ k ≤ m ∧ Hid (J (zs.take k) wr ∧ wr.ownsRow W.heap.size 72 6 (.slice A m c) m (wdsC ws) ∧ W.heap.size ≤ wr.heap.size ∧ (∀ g, bkOf lb wr = some g → M ≤ g) ∧ M ≤ wr.heap.size ∧ lbC lb wr)) (fun i _ => m - (intOf i).toNat)
  case atStart => exact ⟨0, rfl, by omega, hJ1, hrow, hz1.out, hbk.out, hM1.out, hlC.out⟩
  case round =>
    clear hrow hJ1 hbk hM1 hlC
    obtain ⟨k, rfl, hk, HR⟩ := hrel
    have k0 : (0 : Int) ≤ k := by omega
    by_cases hkm : k < m
    · have k1 : (k : Int) < m := by omega
      have e9 : IntKind.i64.wrap ((k : Int) + 1) = ((k + 1 : Nat) : Int) := by have := hwl.out; rw [IntKind.wrap_i64]; omega
      obtain ⟨hJk, hrow, hzr, hbk, hMr, hlC⟩ := HR.out
      clear HR
      have hzl : zs.length = m := by have := congrArg List.length hzs.out; rw [List.length_map] at this; have := hm.out; omega
      obtain ⟨xx, hxx⟩ : ∃ x, zs[k]? = some x := ⟨_, List.getElem?_eq_getElem (by omega)⟩
      obtain ⟨x, hxe⟩ : ∃ x, xx.1 = x := ⟨_, rfl⟩
      have hx : ws[k]? = some x := by rw [← hzs.out, List.getElem?_map, hxx, ← hxe]; rfl
      obtain ⟨gq, hgq⟩ : ∃ gq, A = some ⟨gq, 0, none⟩ := by
        rcases hrow.2 with ⟨_, h0⟩ | ⟨q, cap, cur, e, _⟩
        · omega
        · injection e with e1 _ _; exact ⟨q, e1⟩
      subst hgq
      have hcell : ∀ j, j < 6 → wr.cell? ⟨gq, k * 6 + j, none⟩ = (wdC x)[j]? := fun j hj => by
        rw [hrow.cellAt _ (by omega)]
        exact wdsC_at ws k x hx j hj
      have y0 : wr.cell? ⟨gq, k * 6, none⟩ = some (.string x.name) := hcell 0 (by omega)
      have y1 : wr.cell? ⟨gq, k * 6 + 1, none⟩ = some (.int .i64 x.hd) := hcell 1 (by omega)
      have y2 : wr.cell? ⟨gq, k * 6 + 2, none⟩ = some (.int .i64 x.xt) := hcell 2 (by omega)
      have y3 : wr.cell? ⟨gq, k * 6 + 3, none⟩ = some (.bool x.imm) := hcell 3 (by omega)
      have y4 : wr.cell? ⟨gq, k * 6 + 4, none⟩ = some (.bool x.hid) := hcell 4 (by omega)
      have y5 : wr.cell? ⟨gq, k * 6 + 5, none⟩ = some (.bool x.inl) := hcell 5 (by omega)
      have htk : zs.take (k + 1) = zs.take k ++ [xx] := by
        obtain ⟨hk3, rfl⟩ := List.getElem?_eq_some_iff.1 hxx
        exact List.take_succ_eq_append_getElem hk3
      -- the round's own variable
      have r0 := Bk.fresh wr 72 (wdC wd0).toArray
      have hrow2 := hrow.alloc (.cells (wdC wd0).toArray 72)
      have hBa : Below wr.heap.size wr (wr.alloc (.cells (wdC wd0).toArray 72)) := (Below.refl _ _).alloc (Nat.le_refl _) _
      have hltr : ∀ q, (Value.slice (some ⟨gq, 0, none⟩) m c).ownBlock = some q → q ≠ wr.heap.size := fun q hq => by have := (hrow.lt q hq).2; omega
      obtain ⟨g, hg⟩ : ∃ g, wr.heap.size = g := ⟨_, rfl⟩
      obtain ⟨V, hV⟩ : ∃ V, wr.alloc (.cells (wdC wd0).toArray 72) = V := ⟨_, rfl⟩
      rw [hV] at r0 hrow2 hBa
      rw [hg] at r0 hltr
      have hV' : wr.alloc (.cells #[.string ⟨#[]⟩, .int .i64 0, .int .i64 0, .bool false, .bool false, .bool false] 72) = V := hV
      have hyc : ∀ j, j < 6 → V.cell? ⟨gq, k * 6 + j, none⟩ = (wdC x)[j]? := fun j hj => (hBa.cell (p := ⟨gq, k * 6 + j, none⟩) (hrow.lt gq rfl).2).trans (hcell j hj)
      have z0 : V.cell? ⟨gq, k * 6, none⟩ = some (.string x.name) := hyc 0 (by omega)
      have z1 : V.cell? ⟨gq, k * 6 + 1, none⟩ = some (.int .i64 x.hd) := hyc 1 (by omega)
      have z2 : V.cell? ⟨gq, k * 6 + 2, none⟩ = some (.int .i64 x.xt) := hyc 2 (by omega)
      have z3 : V.cell? ⟨gq, k * 6 + 3, none⟩ = some (.bool x.imm) := hyc 3 (by omega)
      have z4 : V.cell? ⟨gq, k * 6 + 4, none⟩ = some (.bool x.hid) := hyc 4 (by omega)
      have z5 : V.cell? ⟨gq, k * 6 + 5, none⟩ = some (.bool x.inl) := hyc 5 (by omega)
      have hB6 : Below wr.heap.size wr (set6 V g x) := set6_below hBa (by omega)
      have hrow6 := set6_row (x := x) hrow2 hltr
      have hJ6 := hJ.out _ _ _ none hJk (grown_below hB6) (by simp)
      have hz6 := hB6.size
      have hlC6 := hlC.bel hB6
      have hbk6 : ∀ g', bkOf lb (set6 V g x) = some g' → M ≤ g' := fun g' hg' => hbk g' (by rw [← bkOf_below hB6 (Nat.lt_of_lt_of_le hlt.out hzr)]; exact hg')
      have e0 := r0.cell 0
      have e1 := r0.cell 1
      have e2 := r0.cell 2
      have e3 := r0.cell 3
      have e4 := r0.cell 4
      have e5 := r0.cell 5
      simp [wdC, wd0] at e0 e1 e2 e3 e4 e5
      have f0 := r0.free 0
      have f1 := r0.free 1
      have f2 := r0.free 2
      have f3 := r0.free 3
      have f4 := r0.free 4
      have f5 := r0.free 5
      obtain ⟨fn, tmps, assign, body, hy, hR⟩ := hY.out (zs.take k) xx (set6 V g x) hJ6 (by rw [List.length_take]; omega)
      try dsimp only at hy
      rw [hxe] at hy
      unfold set6 at hy hR hrow6 hbk6 hlC6
      simp only [wdV] at hy hR
      rw [← htk] at hR
      replace hR := Lib.hid hR
      replace hrow6 := Lib.hid hrow6
      replace htk := Lib.hid htk
      replace hx := Lib.hid hx
      replace hxx := Lib.hid hxx
      replace hxe := Lib.hid hxe
      replace hz6 := Lib.hid hz6
      replace hbk6 := Lib.hid hbk6
      replace hMr := Lib.hid hMr
      replace hlC6 := Lib.hid hlC6
      clear hbk hlC
      replace hzr := Lib.hid hzr
      replace hkm := Lib.hid hkm
      clear hcell hyc hrow hrow2 hBa hltr hV hB6 hJ6 hJk r0
      gi_wp2
      refine hR.out.mono ?_
      rintro e W3 (⟨rfl, hJ3, hk3⟩ | ⟨rfl, hJx3⟩)
      · have hrow3 := hk3.row hlC6.out hrow6.out (fun g' hg' => ⟨hge.out g' hg', fun e => by have h1 := hbk6.out g' e; have h2 := hgM.out g' hg'; omega⟩)
        have hbk3 : ∀ g', bkOf lb W3 = some g' → M ≤ g' := fun g' hg' => by
          rcases (hk3.on hlC6.out).2.2 with h1 | ⟨g2, h1, h2⟩
          · exact hbk6.out g' (by rw [← h1]; exact hg')
          · rw [h1] at hg'
            injection hg' with hg'
            subst hg'
            exact Nat.le_trans (Nat.le_trans hMr.out hz6.out) h2
        have hM3 : M ≤ W3.heap.size := Nat.le_trans (Nat.le_trans hMr.out hz6.out) hk3.size
        replace hbk3 := Lib.hid hbk3
        replace hM3 := Lib.hid hM3
        have hlC3 := Lib.hid (hk3.on hlC6.out).1
        have hz3 : W.heap.size ≤ W3.heap.size := Nat.le_trans hzr.out (Nat.le_trans hz6.out hk3.size)
        replace hrow3 := Lib.hid hrow3
        replace hz3 := Lib.hid hz3
        replace hJ3 := Lib.hid hJ3
        clear hk3 hy e0 e1 e2 e3 e4 e5 f0 f1 f2 f3 f4 f5 y0 y1 y2 y3 y4 y5 z0 z1 z2 z3 z4 z5
        gi_wp2
        go_roundw
        case rel => exact ⟨k + 1, by first | rfl | simp, by have := hkm.out; omega, hJ3.out, hrow3.out, hz3.out, hbk3.out, hM3.out, hlC3.out⟩
        case measure => have := hkm.out; simp [intOf]; omega
      · clear hy e0 e1 e2 e3 e4 e5 f0 f1 f2 f3 f4 f5 y0 y1 y2 y3 y4 y5 z0 z1 z2 z3 z4 z5
        gi_wp2
        refine bodyPost_ret (results_none rfl _ _ _) rfl ?_
        exact ⟨⟨_, rfl⟩, .inr ⟨zs.take (k + 1), by rw [← hzs.out, List.map_take]; exact List.take_prefix _ _, hJx3⟩⟩
    · obtain rfl : k = m := by omega
      have k1 : ¬ (k : Int) < k := by omega
      gi_wp2
      go_end0
      obtain ⟨hJk, _⟩ := HR.out
      rw [show zs.take k = zs by have := congrArg List.length hzs.out; rw [List.length_map] at this; have := hm.out; exact List.take_of_length_le (by omega)] at hJk
      exact ⟨⟨_, rfl⟩, .inl ⟨zs, hzs.out, hJk⟩⟩
end
/-- a range over the words: the loop's variable lies in a box -/
theorem range_all2 {ps : Array Tmp} {g : Operand} {assign body : Code} {Q : Exit → Act → World → Prop} {a : Act} {W0 : World} {d p b r f y h l : Nat} {L : Lay} {B : List UInt8} {o s : Bool} (n p0 v0 bx lb : Nat) (hn : 2 ≤ n) (X : Nat → Prop) (hX : ∀ k, X k → k < W0.heap.size) (hps : ps = #[p0]) (hlb : Bk W0 lb 67 #[.slice none 0 0])
    (hg : a.eval g = .func (.func 54) #[] #[.pointer (some ⟨bx, 0, none⟩)])
    (D : Dc W0 d p b L r f y B o s h l) (hbx : Bk W0 bx 45 #[.pointer (some ⟨d, 0, none⟩)])
    (I : List NW → World → Prop) (Ix : Code → List NW → World → Prop) (hI : OwnFrom W0.heap.size I) (hIx : ∀ c, OwnFrom W0.heap.size (Ix c)) (h0 : I [] W0)
    (hassign : ∀ (l : Nat) (pre : List NW) (x : NW) (W : World) (K : Act → World → Prop), I pre W → (∀ Bx W', W0.heap.size ≤ Bx → Bk W' Bx 72 (wdC x.1).toArray → KeepsFrom W0.heap.size W W' → Kd lb X W W' → I pre W' → K { tmps := (a.tmps.setIfInBounds p0 (wdV x.1)).setIfInBounds v0 (.pointer (some ⟨Bx, 0, none⟩)), defers := [] } W') →
      assign.wpIn (Fence.wide.inRound l) (n - 1 - 1) Tryd.prog (Exit.then K (fun _ _ _ => False)) { tmps := a.tmps.setIfInBounds p0 (wdV x.1), defers := [] } W)
    (hbody : ∀ (l' : Nat) (pre : List NW) (x : NW) (Bx : Nat) (W : World), W0.heap.size ≤ l' → W0.heap.size ≤ Bx → Bk W Bx 72 (wdC x.1).toArray → I pre W → pre.length < (walkP B f y l).length → body.wpIn (Fence.wide.inRound l') (n - 1 - 1) Tryd.prog (ownPostG W0.heap.size (Kd lb X) I Ix (pre ++ [x]) W) { tmps := (a.tmps.setIfInBounds p0 (wdV x.1)).setIfInBounds v0 (.pointer (some ⟨Bx, 0, none⟩)), defers := [] } W)
    (hdone : ∀ (D' : Nat) (xs : List NW) (W : World), W0.heap.size ≤ D' → xs.map (·.1) = walkP B f y l → I xs W → W.heap[D']? = some (.deferred (some [])) → Q .normal { a with defers := { target := .collected D', args := #[] } :: a.defers } W)
    (hstop : ∀ (D' : Nat) (c : Code) (pre : List NW) (W : World), W0.heap.size ≤ D' → pre.map (·.1) <+: walkP B f y l → Ix c pre W → W.heap[D']? = some (.deferred (some [])) → c.wpIn Fence.wide n Tryd.prog Q { a with defers := { target := .collected D', args := #[] } :: a.defers } W) :
    (Code.rangeFunc g ps assign body).wpIn Fence.wide n Tryd.prog Q a W0 := by
  subst hps
  refine wpIn_rangeFunc_ownH rfl (by omega) (gf := 54) (lb := #[.pointer (some ⟨bx, 0, none⟩)]) hg trivial (enters_of Tryd.func54 (by kernel_rfl) rfl)
    (all_stops2 (n - 1) (by omega) bx lb X hX hlb D hbx) (fun {_ _ _} h k => h.t k) (fun W l o o' _ hl hc _ => Kd.b W l o o' hl hc) (Below.refl _ _) (fun _ => rfl)
    I Ix hI hIx h0
    (fun x a' W => ∃ Bx, W0.heap.size ≤ Bx ∧ Bk W Bx 72 (wdC x.1).toArray ∧ a' = { tmps := (a.tmps.setIfInBounds p0 (wdV x.1)).setIfInBounds v0 (.pointer (some ⟨Bx, 0, none⟩)), defers := [] })
    (fun x a' _ X Y row hs hg hr => by obtain ⟨Bx, e1, e2, e3⟩ := hs; exact ⟨Bx, e1, own_bk _ _ _ () X Y row e2 hg (fun r e => (hr r e).2), e3⟩)
    (fun l pre x W K hi hK => by
      have := hassign l pre x W K hi (fun Bx W' h1 h2 h3 h4 h5 => hK _ W' h3 h4 h5 ⟨Bx, h1, h2, rfl⟩)
      simpa using this) ?_ hdone hstop
  rintro l' pre x a' W h1 h2 h3 ⟨Bx, h4, h5, rfl⟩ h6
  exact hbody l' pre x Bx W h1 h4 h5 h3 h6
end Go.Proofs.YtpbloennjcjgoaaDoor
