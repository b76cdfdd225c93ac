import Derived.Test.YtoaiiimnfgbcaaaDcN
import Derived.Test.YtoaiiimnfgbcaaaPostStrs
import Derived.Sort.QuietIn
import Derived.Laws.StructEq
namespace Go.Proofs.Ytoaiiimnfgbcaaa
open Go.RowKit Go.Shelf
attribute [local go_sem] Oper.semAt_some
set_option linter.unusedVariables false
set_option linter.unusedSimpArgs false
/-! DictFinds: lemmas for the walk -/
theorem row_ne {W : World} {base n size k : Nat} {e t : TypeId} {v : Value} {xs : List Value} {vs : Array Value} (h : W.ownsRow base e size v n xs) (hb : Bk W k t vs) (ht : t ≠ e) : v.ownBlock ≠ some k := by
  intro hk
  obtain ⟨_, h | h⟩ := h
  · rw [h.1] at hk; cases hk
  · obtain ⟨g, cap, cur, rfl, _, hc, _⟩ := h
    have hg : g = k := by injection hk
    subst hg
    unfold Bk at hb
    rw [hc] at hb
    injection hb with hb
    injection hb with _ hb
    exact ht hb.symm
theorem Onb.row {b d : Nat} {x y : World} {base n size : Nat} {e : TypeId} {v : Value} {xs : List Value} (h : Onb b d x y) (hr : x.ownsRow base e size v n xs) (h1 : v.ownBlock ≠ some b) (h2 : v.ownBlock ≠ some d) : y.ownsRow base e size v n xs := by
  refine ⟨hr.1, ?_⟩
  rcases hr.2 with hn0 | ⟨k, cap, cur, rfl, hb, hgg, rest⟩
  · exact .inl hn0
  · exact .inr ⟨k, cap, cur, rfl, hb, (h.block k (Array.getElem?_eq_some_iff.1 hgg).1 (fun e => h1 (by simp [Value.ownBlock, e])) (fun e => h2 (by simp [Value.ownBlock, e]))).trans hgg, rest⟩
theorem headP_xt {B : List UInt8} {f y a : Nat} {x : Wd} {nx : Int} (h : headP B f y (a : Int) = some (x, nx)) : a < x.xt := by
  unfold headP at h
  by_cases c1 : (a : Int) % 8 = 0 ∧ (f : Int) ≤ a ∧ (a : Int) + 16 ≤ y
  · rw [if_pos c1] at h
    simp only [Int.toNat_natCast] at h
    by_cases c2 : (B.getD (a + 8) 0).toNat % 32 ≠ 0 ∧ upN (a + 9 + (B.getD (a + 8) 0).toNat % 32) ≤ y
    · rw [if_pos c2] at h
      injection h with h
      injection h with hx hn
      have hu := upN_le (a + 9 + (B.getD (a + 8) 0).toNat % 32)
      have hxt : x.xt = upN (a + 9 + (B.getD (a + 8) 0).toNat % 32) := by rw [← hx]; rfl
      omega
    · rw [if_neg c2] at h; cases h
  · rw [if_neg c1] at h; cases h
theorem chain_lt {B : List UInt8} {f y h l : Nat} {X : List Wd} (hf : 0 < f) (hh : f ≤ h) (hC : Chain B f y h l X) : l < h := by
  cases X with
  | nil => have : l = 0 := hC; omega
  | cons x X =>
    obtain ⟨h1, nx, h2, h3, h4⟩ := hC
    have := headP_xt h3
    omega
theorem Dc.grown {W W' : World} {d p b r f y h l : Nat} {L : Lay} {B : List UInt8} {o s : Bool} {row : Option Nat} (D : Dc W d p b L r f y B o s h l) (hg : W.grownBy W' row) (h1 : row ≠ some p) (h2 : row ≠ some b) (h3 : row ≠ some d) : Dc W' d p b L r f y B o s h l :=
  ⟨⟨D.im.ok, D.im.st.grown hg h1.symm, D.im.by_.grown hg h2.symm, D.im.len⟩, D.bk.grown hg h3.symm, D.rr, D.fx, D.yx, D.lo, D.hi, D.la⟩
theorem Dc.far {W : World} {d p b r f y h l : Nat} {L : Lay} {B : List UInt8} {o s : Bool} (D : Dc W d p b L r f y B o s h l) {q : Addr} (h1 : p ≠ q.block) (h2 : b ≠ q.block) (h3 : d ≠ q.block) (v : Value) : Dc (W.setCell q v) d p b L r f y B o s h l :=
  ⟨D.im.far h1 h2 v, D.bk.other h3 v, D.rr, D.fx, D.yx, D.lo, D.hi, D.la⟩
theorem find_first {B : List UInt8} {f y h l : Nat} {x : Wd} {X : List Wd} (hf : 0 < f) (hC : Chain B f y h l (x :: X)) (hx : x.hid = false) {t : ByteArray} (hs : sameOk x.name t = true) : findP (walkP B f y l) t = some x := by
  rw [chain_walkP hf hC]
  have h1 : hitP t x = true := by unfold hitP; rw [hx, hs]; rfl
  unfold findP
  simp [h1]
theorem wpListIn_append_run {F : Fence} {n : Nat} {P : Program} {w w2 : World} {ops : Array Oper} {rest : List Oper} {o : Oper} {a : Act} {Q : Exit → Act → World → Prop} (hgd : o.guard = none) (s x : Operand) (t : TypeId)
    (ho : o.op = .call { callee := .builtin .append, args := #[s, x], argTypes := #[t, t] }) (v0 v1 V : Value) (hs : a.eval s = v0) (hx : a.eval x = V)
    (hrun : (Builtin.append_ #[t, t] o.type #[v0, V]).run P w = .ok v1 w2) (h : wpListIn F n P ops Q rest (a.put o.dst v1) w2) : wpListIn F n P ops Q (o :: rest) a w := by
  refine wpListIn_plain hgd fun K hK => ?_
  unfold Oper.wpIn
  refine ⟨?_, ?_⟩
  · simp [Oper.about, ho, resolve, Target.leads, Sem.run_pure]
  · rw [Oper.semAt_plain F _ _ (by rw [ho]; intro c hc'; cases hc')]
    simp only [execOp, ho, resolve, invoke, builtin, Sem.run_bind, Sem.run_pure, Result.andThen_ok, List.map_toArray, List.map_cons, List.map_nil, hs, hx, hrun]
    exact hK _ _ h
/-! a quiet region within a round -/
theorem wpIn_round {F : Fence} {n : Nat} {P : Program} {o : Oper} {a : Act} {w : World} {K : Act → World → Prop} {Q : Exit → Act → World → Prop} (l : Nat) (hd : ∀ c, o.op ≠ .defer c) (h : o.wpIn F n P a w K Q) : o.wpIn (F.inRound l) n P a w K Q := by
  refine ⟨h.1, ?_⟩
  have h2 := h.2
  rw [Oper.semAt_plain F _ _ hd] at h2
  rw [Oper.semAt_plain (F.inRound l) _ _ hd]
  exact h2
theorem wpAnyIn_round {F : Fence} {n : Nat} {P : Program} {md : Region.Mode} {ops : Array Oper} {Q : Exit → Act → World → Prop} (l : Nat) (hd : ∀ (i : Nat) (o : Oper), ops[i]? = some o → ∀ c, o.op ≠ .defer c) : ∀ (fuel : Nat) (listed : Array Bool) (a : Act) (w : World), wpAnyIn F n P md ops Q fuel listed a w → wpAnyIn (F.inRound l) n P md ops Q fuel listed a w
  | 0, _, _, _, h => h
  | fuel + 1, listed, a, w, h => ⟨h.1, fun i hi => by
    have h2 := h.2 i hi
    have h3 : wpOpIn F n P ops Q i (wpAnyIn (F.inRound l) n P md ops Q fuel (listed.setIfInBounds i true)) a w := wpOpIn_mono (fun a' w' k => wpAnyIn_round l hd fuel _ a' w' k) h2
    unfold wpOpIn at h3 ⊢
    cases ho : ops[i]? with
    | none => rw [ho] at h3; exact h3
    | some o =>
      rw [ho] at h3
      simp only at h3 ⊢
      split
      · rename_i hw; rw [if_pos hw] at h3; exact wpIn_round l (hd i o ho) h3
      · rename_i hw; rw [if_neg hw] at h3; exact h3⟩
theorem region_round {F : Fence} {n : Nat} {P : Program} {id : Nat} {Q : Exit → Act → World → Prop} {a : Act} {w : World} {ops : List Oper} {l : Nat} (hro : F.round = none) (hd : (ops.all fun o => match o.op with | .defer _ => false | _ => true) = true) (hm : P.follows .mixedOrders = true) (hB : Region.lexB .any ops.toArray = true)
    (h : wpQuietIn F n P ops.toArray (fun w' => ∃ n, w' = w.drewN n) (fun a' => ∀ w', (∃ n, w' = w.drewN n) → Q .normal a' w') ops a) : (Code.region id ops.toArray true).wpIn (F.inRound l) n P Q a w := by
  have hd2 : ∀ (i : Nat) (o : Oper), ops.toArray[i]? = some o → ∀ c, o.op ≠ .defer c := fun i o ho c e => by
    have hm := List.all_eq_true.1 hd o (by simp at ho; exact List.mem_of_getElem? ho)
    rw [e] at hm
    cases hm
  simp only [Region.lexB, Bool.and_eq_true] at hB
  refine wpIn_region_any hm (wpAnyIn_round l hd2 _ _ _ _ (wpAnyIn_of_quiet (C := fun w' => ∃ n, w' = w.drewN n) (Q := fun a' => ∀ w', (∃ n, w' = w.drewN n) → Q .normal a' w') hro (fun _ w' hw' h => h w' hw') _ _ _ _ ⟨1, rfl⟩ ?_))
  have := wpAnyQIn_lex (F := F) (n := n) (C := fun w' => ∃ n, w' = w.drewN n) (md := .any) hB.1 ops 0 (Array.replicate ops.length false) a (by simp) (by simpa using hB.2) (by simpa using h)
  simpa using this
/-- what was marked stands in the bytes that came later -/
def KeptAt (f y : Nat) (B : List UInt8) (h : Nat) (X : List Wd) (hh ll kk : Int) : Prop :=
  kk = -1 ∨ ∃ (Y Z : List Wd) (h0 l0 : Nat), hh = h0 ∧ ll = l0 ∧ kk = (Z.length : Nat) ∧ X = Y ++ Z ∧ f ≤ h0 ∧ h0 ≤ h ∧ (l0 = 0 ∨ f ≤ l0 ∧ l0 < y ∧ l0 % 8 = 0) ∧ Chain B f y h0 l0 Z
theorem KeptAt.now {f y h l : Nat} {B : List UInt8} {X : List Wd} (hf : f ≤ h) (hl : l = 0 ∨ f ≤ l ∧ l < y ∧ l % 8 = 0) (hC : Chain B f y h l X) : KeptAt f y B h X h l (X.length : Nat) :=
  .inr ⟨[], X, h, l, rfl, rfl, rfl, rfl, hf, Nat.le_refl _, hl, hC⟩
theorem KeptAt.next {f y h l : Nat} {B : List UInt8} {X : List Wd} {hh ll kk : Int} (x : Wd) (nm : ByteArray) (hK : KeptAt f y B h X hh ll kk) (h2 : upN h + 9 + nm.size ≤ B.length) (hB : y ≤ B.length) : KeptAt f y (mkB 0 y (upN h) false (crB B h l nm)) (crH h nm.size) (x :: X) hh ll kk := by
  have hu := upN_le h
  have hv := upN_le (upN h + 9 + nm.size)
  rcases hK with hK | ⟨Y, Z, h0, l0, e1, e2, e3, e4, e5, e6, e7, e8⟩
  · exact .inl hK
  · refine .inr ⟨x :: Y, Z, h0, l0, e1, e2, e3, by rw [e4]; rfl, e5, by unfold crH; omega, e7, ?_⟩
    refine chain_same (by rw [mkB_len, crB_len _ _ _ _ (by omega)]) hB (Nat.le_refl _) (fun i hi => ?_) Z l0 e8
    rw [mkB_lo _ _ _ _ _ _ (by omega)]
    exact crB_lo _ _ _ _ (by omega) i (by omega)
/-- a range over the words: the loop's variable lies in a box -/
theorem range_all {ps : Array Tmp} {g : Operand} {assign body : Code} {Q : Exit → Act → World → Prop} {a : Act} {W0 : World} {d p b r f y h l : Nat} {L : Lay} {B : List UInt8} {o s : Bool} (n p0 v0 bx : Nat) (hn : 2 ≤ n) (X : Nat → Prop) (hX : ∀ k, X k → k < W0.heap.size) (hps : ps = #[p0])
    (hg : a.eval g = .func (.func 36) #[] #[.pointer (some ⟨bx, 0, none⟩)])
    (D : Dc W0 d p b L r f y B o s h l) (hbx : Bk W0 bx 30 #[.pointer (some ⟨d, 0, none⟩)])
    (I : List NW → World → Prop) (Ix : Code → List NW → World → Prop) (hI : OwnFrom W0.heap.size I) (hIx : ∀ c, OwnFrom W0.heap.size (Ix c)) (h0 : I [] W0)
    (hassign : ∀ (l : Nat) (pre : List NW) (x : NW) (W : World) (K : Act → World → Prop), I pre W → (∀ Bx W', W0.heap.size ≤ Bx → Bk W' Bx 34 (wdC x.1).toArray → KeepsFrom W0.heap.size W W' → Kc X W W' → I pre W' → K { tmps := (a.tmps.setIfInBounds p0 (wdV x.1)).setIfInBounds v0 (.pointer (some ⟨Bx, 0, none⟩)), defers := [] } W') →
      assign.wpIn (Fence.wide.inRound l) (n - 1 - 1) Try.prog (Exit.then K (fun _ _ _ => False)) { tmps := a.tmps.setIfInBounds p0 (wdV x.1), defers := [] } W)
    (hbody : ∀ (l' : Nat) (pre : List NW) (x : NW) (Bx : Nat) (W : World), W0.heap.size ≤ l' → W0.heap.size ≤ Bx → Bk W Bx 34 (wdC x.1).toArray → I pre W → pre.length < (walkP B f y l).length → body.wpIn (Fence.wide.inRound l') (n - 1 - 1) Try.prog (ownPostG W0.heap.size (Kc X) I Ix (pre ++ [x]) W) { tmps := (a.tmps.setIfInBounds p0 (wdV x.1)).setIfInBounds v0 (.pointer (some ⟨Bx, 0, none⟩)), defers := [] } W)
    (hdone : ∀ (D' : Nat) (xs : List NW) (W : World), W0.heap.size ≤ D' → xs.map (·.1) = walkP B f y l → I xs W → W.heap[D']? = some (.deferred (some [])) → Q .normal { a with defers := { target := .collected D', args := #[] } :: a.defers } W)
    (hstop : ∀ (D' : Nat) (c : Code) (pre : List NW) (W : World), W0.heap.size ≤ D' → pre.map (·.1) <+: walkP B f y l → Ix c pre W → W.heap[D']? = some (.deferred (some [])) → c.wpIn Fence.wide n Try.prog Q { a with defers := { target := .collected D', args := #[] } :: a.defers } W) :
    (Code.rangeFunc g ps assign body).wpIn Fence.wide n Try.prog Q a W0 := by
  subst hps
  refine wpIn_rangeFunc_ownH rfl (by omega) (gf := 36) (lb := #[.pointer (some ⟨bx, 0, none⟩)]) hg trivial (enters_of Try.func36 (by kernel_rfl) rfl)
    (all_stops (n - 1) (by omega) bx X hX D hbx) (fun {_ _ _} h k => h.t k) (fun W l o o' _ hl hc _ => Kc.b W l o o' hl hc) (Below.refl _ _) (fun _ => rfl)
    I Ix hI hIx h0
    (fun x a' W => ∃ Bx, W0.heap.size ≤ Bx ∧ Bk W Bx 34 (wdC x.1).toArray ∧ a' = { tmps := (a.tmps.setIfInBounds p0 (wdV x.1)).setIfInBounds v0 (.pointer (some ⟨Bx, 0, none⟩)), defers := [] })
    (fun x a' _ X Y row hs hg hr => by obtain ⟨Bx, e1, e2, e3⟩ := hs; exact ⟨Bx, e1, own_bk _ _ _ () X Y row e2 hg (fun r e => (hr r e).2), e3⟩)
    (fun l pre x W K hi hK => by
      have := hassign l pre x W K hi (fun Bx W' h1 h2 h3 h4 h5 => hK _ W' h3 h4 h5 ⟨Bx, h1, h2, rfl⟩)
      simpa using this) ?_ hdone hstop
  rintro l' pre x a' W h1 h2 h3 ⟨Bx, h4, h5, rfl⟩ h6
  exact hbody l' pre x Bx W h1 h4 h5 h3 h6
theorem own_row {β : Type} (base n size : Nat) (e : TypeId) (v : Value) (xs : List Value) : Own (fun (_ : β) W => W.ownsRow base e size v n xs) := fun s A B row hs hg hr => by
  refine ⟨hs.1, ?_⟩
  rcases hs.2 with hn0 | ⟨k, cap, cur, rfl, hb, hgg, rest⟩
  · exact .inl hn0
  · refine .inr ⟨k, cap, cur, rfl, hb, (hg.block k (Array.getElem?_eq_some_iff.1 hgg).1 (fun e => ?_)).trans hgg, rest⟩
    obtain ⟨o, ho, hc⟩ := hr k e.symm
    rw [hgg] at ho
    injection ho with ho
    subst ho
    cases hc
theorem own_dc {β : Type} (d p b : Nat) (L : Lay) (r f y : Nat) (B : List UInt8) (o s : Bool) (h l : Nat) : Own (fun (_ : β) W => Dc W d p b L r f y B o s h l) := fun q A A' row hs hg hr =>
  ⟨⟨hs.im.ok, own_bk _ _ _ q A A' row hs.im.st hg hr, own_bk _ _ _ q A A' row hs.im.by_ hg hr, hs.im.len⟩, own_bk _ _ _ q A A' row hs.bk hg hr, hs.rr, hs.fx, hs.yx, hs.lo, hs.hi, hs.la⟩
noncomputable def eqW (x y : Wd) : Bool := @decide (x = y) (Classical.propDecidable _)
theorem eqW_iff (x y : Wd) : eqW x y = true ↔ x = y := by unfold eqW; simp
theorem run_eqW (x y : Wd) (w : World) : (Op.equal 34 (wdV x) (wdV y)).run Try.prog w = .ok (eqW x y) w := by
  obtain ⟨a1, a2, a3, a4, a5, a6⟩ := x
  obtain ⟨b1, b2, b3, b4, b5, b6⟩ := y
  have e1 : a1 = b1 ↔ a1.toList = b1.toList := ⟨fun h => by rw [h], fun h => by
    rw [ByteArray.toList_eq, ByteArray.toList_eq] at h
    obtain ⟨⟨x⟩⟩ := a1
    obtain ⟨⟨y⟩⟩ := b1
    have h : x = y := h
    rw [h]⟩
  have hE : eqW ⟨a1, a2, a3, a4, a5, a6⟩ ⟨b1, b2, b3, b4, b5, b6⟩ = ((a1.toList == b1.toList) && (((a2 : Int) == b2) && (((a3 : Int) == b3) && ((a4 == b4) && ((a5 == b5) && (a6 == b6)))))) := by
    rw [Bool.eq_iff_iff, eqW_iff]
    simp only [Wd.mk.injEq, Bool.and_eq_true, beq_iff_eq, e1, Int.ofNat_inj]
  rw [hE]
  unfold wdV Op.equal Op.maxDepth
  have hd : (10000 : Nat) = 9998 + 1 + 1 := rfl
  rw [hd, run_equalIn_struct _ _ _ _ _ (by kernel_rfl) (by kernel_rfl)]
  simp [Op.eqFields, go_sem, Program.fieldsOf]
  repeat' split
  all_goals (rename_i h1; try simp [*])
theorem run_eqW1 (n1 n2 : ByteArray) (h1 h2 x1 x2 : Nat) (i1 i2 d1 d2 l1 l2 : Bool) (w : World) : (Op.equal 34 (.agg #[.string n1, .int .i64 h1, .int .i64 x1, .bool i1, .bool d1, .bool l1]) (.agg #[.string n2, .int .i64 h2, .int .i64 x2, .bool i2, .bool d2, .bool l2])).run Try.prog w = .ok (eqW ⟨n1, h1, x1, i1, d1, l1⟩ ⟨n2, h2, x2, i2, d2, l2⟩) w := run_eqW ⟨n1, h1, x1, i1, d1, l1⟩ ⟨n2, h2, x2, i2, d2, l2⟩ w
theorem run_eqW2 (n1 n2 : ByteArray) (h1 h2 x1 x2 : Nat) (i1 i2 d1 d2 l1 l2 : Bool) (w : World) : (Op.equalIn 10000 34 (.agg #[.string n1, .int .i64 h1, .int .i64 x1, .bool i1, .bool d1, .bool l1]) (.agg #[.string n2, .int .i64 h2, .int .i64 x2, .bool i2, .bool d2, .bool l2])).run Try.prog w = .ok (eqW ⟨n1, h1, x1, i1, d1, l1⟩ ⟨n2, h2, x2, i2, d2, l2⟩) w := run_eqW ⟨n1, h1, x1, i1, d1, l1⟩ ⟨n2, h2, x2, i2, d2, l2⟩ w
/-- what holds in the rounds of a range that counts down a row of words -/
structure Iw (w : World) (K0 cx lb q : Nat) (A2 : Option Addr) (c2 : Nat) (Xs Z : List Wd) (d p b : Nat) (L : Lay) (f y : Nat) (B : List UInt8) (h l : Nat) (pre : List NW) (W : World) : Prop where
  pfx : pre.map (·.1) <+: Z
  cnt : Bk W cx 3 #[.int .i64 ((Z.length - pre.length : Nat) : Int)]
  lst : Bk W lb 49 #[.slice A2 Xs.length c2]
  row : W.ownsRow w.heap.size 34 6 (.slice A2 Xs.length c2) Xs.length (wdsC Xs.reverse)
  res : Bk W q 4 #[.bool false]
  bel : Below w.heap.size w W
  dc : Dc W d p b L 3 f y B false false h l
  lo : K0 ≤ W.heap.size
section
variable {w W W' : World} {K0 cx lb q : Nat} {A2 : Option Addr} {c2 : Nat} {Xs Z : List Wd} {d p b : Nat} {L : Lay} {f y : Nat} {B : List UInt8} {h l : Nat} {pre : List NW}
theorem Iw.own (K : Nat) (hK : w.heap.size ≤ K) : OwnFrom K (Iw w K0 cx lb q A2 c2 Xs Z d p b L f y B h l) := fun s A A' row hs hg hr =>
  have hr2 := fun r e => (hr r e).2
  ⟨hs.pfx, own_bk _ _ _ s A A' row hs.cnt hg hr2, own_bk _ _ _ s A A' row hs.lst hg hr2, own_row _ _ _ _ _ _ s A A' row hs.row hg hr2, own_bk _ _ _ s A A' row hs.res hg hr2,
    ownFrom_below (Nat.le_refl _) hK s A A' row hs.bel hg hr, own_dc _ _ _ _ _ _ _ _ _ _ _ _ s A A' row hs.dc hg hr2, Nat.le_trans hs.lo hg.size⟩
theorem Iw.kept (hs : Iw w K0 cx lb q A2 c2 Xs Z d p b L f y B h l pre W) (hb : Below W.heap.size W W') : Iw w K0 cx lb q A2 c2 Xs Z d p b L f y B h l pre W' :=
  ⟨hs.pfx, hs.cnt.kept hb hs.cnt.lt, hs.lst.kept hb hs.lst.lt, own_below hs.row hb (Nat.le_refl _), hs.res.kept hb hs.res.lt, hs.bel.trans (hb.mono hs.bel.size), hs.dc.bel hb, Nat.le_trans hs.lo hb.size⟩
theorem Kc.of_set {W : World} (k : Nat) {q : Addr} (v : Value) (hq : q.block = k) : Kc (fun i => i = k) W (W.setCell q v) := ⟨by rw [World.size_setCell]; exact Nat.le_refl _, fun i o hi _ hx => (Below.heap_setCell W q v i (by rw [hq]; exact hx)).trans hi⟩
/-- the count is written -/
theorem Iw.put (hs : Iw w K0 cx lb q A2 c2 Xs Z d p b L f y B h l pre W) (hc : w.heap.size ≤ cx) (v : Value) : Bk (W.setCell ⟨cx, 0, none⟩ v) cx 3 #[v] ∧ Bk (W.setCell ⟨cx, 0, none⟩ v) lb 49 #[.slice A2 Xs.length c2] ∧
    (W.setCell ⟨cx, 0, none⟩ v).ownsRow w.heap.size 34 6 (.slice A2 Xs.length c2) Xs.length (wdsC Xs.reverse) ∧ Bk (W.setCell ⟨cx, 0, none⟩ v) q 4 #[.bool false] ∧ Below w.heap.size w (W.setCell ⟨cx, 0, none⟩ v) ∧ Dc (W.setCell ⟨cx, 0, none⟩ v) d p b L 3 f y B false false h l ∧ K0 ≤ (W.setCell ⟨cx, 0, none⟩ v).heap.size := by
  have n1 := hs.cnt.ne hs.lst (by decide)
  refine ⟨hs.cnt.put 0 v, hs.lst.other (p := ⟨cx, 0, none⟩) n1.symm _, ?_, hs.res.other (p := ⟨cx, 0, none⟩) (hs.cnt.ne hs.res (by decide)).symm _, hs.bel.setCell (p := ⟨cx, 0, none⟩) hc _,
    hs.dc.far (q := ⟨cx, 0, none⟩) (hs.cnt.ne hs.dc.im.st (by decide)).symm (hs.cnt.ne hs.dc.im.by_ (by decide)).symm (hs.cnt.ne hs.dc.bk (by decide)).symm _, by rw [World.size_setCell]; exact hs.lo⟩
  exact Onb.row (b := cx) (d := cx) (Onb.ofd ((Only.refl cx W).put 0 _)) hs.row (row_ne hs.row hs.cnt (by decide)) (row_ne hs.row hs.cnt (by decide))
theorem pre_snoc (hp : pre.map (·.1) <+: Z) (x : NW) (hx : Z[pre.length]? = some x.1) : (pre ++ [x]).map (·.1) <+: Z := by
  obtain ⟨t, ht⟩ := hp
  rw [← ht] at hx
  rw [List.getElem?_append_right (by simp)] at hx
  simp only [List.length_map, Nat.sub_self] at hx
  obtain ⟨t', rfl⟩ : ∃ t', t = x.1 :: t' := by
    cases t with
    | nil => simp at hx
    | cons a t' => simp at hx; subst hx; exact ⟨t', rfl⟩
  exact ⟨t', by rw [← ht]; simp⟩
theorem not_pre (x : NW) {z : Wd} (hz : Z[pre.length]? = some z) (hx : ¬ x.1 = z) : ¬ (pre ++ [x]).map (·.1) <+: Z := by
  rintro ⟨t, ht⟩
  apply hx
  rw [← ht] at hz
  simp at hz
  exact hz
/-- the row's cells at a word -/
theorem row_cell {K m : Nat} {Y : List Wd} (hX : Xs = Y ++ Z) (hs : W.ownsRow K 34 6 (.slice A2 Xs.length c2) Xs.length (wdsC Xs.reverse)) {z : Wd} (hz : Z[m]? = some z) : ∃ gq, A2 = some ⟨gq, 0, none⟩ ∧ ∀ j, j < 6 → W.cell? ⟨gq, (Z.length - (m + 1)) * 6 + j, none⟩ = (wdC z)[j]? := by
  obtain ⟨hlt, hzz⟩ := List.getElem?_eq_some_iff.1 hz
  have hxl : Xs.length = Y.length + Z.length := by rw [hX]; simp
  obtain ⟨gq, rfl⟩ : ∃ gq, A2 = some ⟨gq, 0, none⟩ := by
    rcases hs.2 with ⟨_, h0⟩ | ⟨q, cap, cur, e, _⟩
    · omega
    · injection e with e1 _ _; exact ⟨q, e1⟩
  refine ⟨gq, rfl, fun j hj => ?_⟩
  rw [hs.cellAt _ (by omega)]
  refine wdsC_at Xs.reverse (Z.length - (m + 1)) z ?_ j hj
  rw [hX, List.reverse_append, List.getElem?_append_left (by simp; omega), List.getElem?_reverse (by omega), ← hz]
  congr 1
  omega
end
end Go.Proofs.Ytoaiiimnfgbcaaa
