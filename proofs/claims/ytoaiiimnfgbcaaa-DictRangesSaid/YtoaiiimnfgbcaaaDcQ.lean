import Derived.Test.YtoaiiimnfgbcaaaDcP
import Derived.Stop.RegionWithIn
namespace Go.Proofs.Ytoaiiimnfgbcaaa
open Go.RowKit Go.Shelf
attribute [local go_sem] Oper.semAt_some
set_option linter.unusedVariables false
set_option linter.unusedSimpArgs false
/-! DictRanges: ranges without a variable -/
theorem Kc.refl {X : Nat → Prop} (W : World) : Kc X W W := ⟨Nat.le_refl _, fun _ _ h _ _ => h⟩
theorem range_skip {ps : Array Tmp} {g : Operand} {body : Code} {Q : Exit → Act → World → Prop} {a : Act} {W0 : World} {d p b r f y h l : Nat} {L : Lay} {B : List UInt8} {o s : Bool} (n p0 bx : Nat) (hn : 2 ≤ n) (X : Nat → Prop) (hX : ∀ k, X k → k < W0.heap.size) (hps : ps = #[p0])
    (hg : a.eval g = .func (.func 36) #[] #[.pointer (some ⟨bx, 0, none⟩)])
    (D : Dc W0 d p b L r f y B o s h l) (hbx : Bk W0 bx 30 #[.pointer (some ⟨d, 0, none⟩)])
    (I : List NW → World → Prop) (Ix : Code → List NW → World → Prop) (hI : OwnFrom W0.heap.size I) (hIx : ∀ c, OwnFrom W0.heap.size (Ix c)) (h0 : I [] W0)
    (hbody : ∀ (l' : Nat) (pre : List NW) (x : NW) (W : World), W0.heap.size ≤ l' → (∃ r, W.heap[l']? = some (.loop r)) → I pre W → pre.length < (walkP B f y l).length → body.wpIn (Fence.wide.inRound l') (n - 1 - 1) Try.prog (ownPostG W0.heap.size (Kc X) I Ix (pre ++ [x]) W) { tmps := a.tmps.setIfInBounds p0 (wdV x.1), defers := [] } W)
    (hdone : ∀ (D' : Nat) (xs : List NW) (W : World), W0.heap.size ≤ D' → xs.map (·.1) = walkP B f y l → I xs W → W.heap[D']? = some (.deferred (some [])) → Q .normal { a with defers := { target := .collected D', args := #[] } :: a.defers } W)
    (hstop : ∀ (D' : Nat) (c : Code) (pre : List NW) (W : World), W0.heap.size ≤ D' → pre.map (·.1) <+: walkP B f y l → Ix c pre W → W.heap[D']? = some (.deferred (some [])) → c.wpIn Fence.wide n Try.prog Q { a with defers := { target := .collected D', args := #[] } :: a.defers } W) :
    (Code.rangeFunc g ps Code.skip body).wpIn Fence.wide n Try.prog Q a W0 := by
  subst hps
  refine wpIn_rangeFunc_ownH rfl (by omega) (gf := 36) (lb := #[.pointer (some ⟨bx, 0, none⟩)]) hg trivial (enters_of Try.func36 (by kernel_rfl) rfl)
    (all_stops (n - 1) (by omega) bx X hX D hbx) (fun {_ _ _} h k => h.t k) (fun W l o o' _ hl hc _ => Kc.b W l o o' hl hc) (Below.refl _ _) (fun _ => rfl)
    I Ix hI hIx h0
    (fun x a' _ => a' = { tmps := a.tmps.setIfInBounds p0 (wdV x.1), defers := [] })
    (fun x a' _ X Y row hs hg hr => hs)
    (fun l pre x W K hi hK => by
      have := wpIn_skip (F := Fence.wide.inRound l) (n := n - 1 - 1) (P := Try.prog) (Q := Exit.then K (fun _ _ _ => False)) (a := { tmps := a.tmps.setIfInBounds p0 (wdV x.1), defers := [] }) (w := W) (hK _ W (KeepsFrom.refl _ _) (Kc.refl W) hi rfl)
      simpa using this) ?_ hdone hstop
  rintro l' pre x a' W h1 hlr h3 rfl h6
  exact hbody l' pre x W h1 hlr h3 h6
/-- a range over no words, within a round -/
theorem range_none {ps : Array Tmp} {g : Operand} {body : Code} {Q : Exit → Act → World → Prop} {a : Act} {W0 : World} {d p b r f y h l : Nat} {L : Lay} {B : List UInt8} {o s : Bool} {l0 : Nat} (n p0 bx : Nat) (hn : 2 ≤ n) (hl0 : ∃ r0, W0.heap[l0]? = some (.loop r0)) (hps : ps = #[p0])
    (hg : a.eval g = .func (.func 36) #[] #[.pointer (some ⟨bx, 0, none⟩)])
    (D : Dc W0 d p b L r f y B o s h l) (hbx : Bk W0 bx 30 #[.pointer (some ⟨d, 0, none⟩)]) (hw : walkP B f y l = [])
    (I : World → Prop) (hI : OwnFrom W0.heap.size (fun (_ : List NW) W => I W)) (h0 : I W0) (hdone : ∀ W, I W → Q .normal a W) :
    (Code.rangeFunc g ps Code.skip body).wpIn (Fence.wide.inRound l0) n Try.prog Q a W0 := by
  subst hps
  obtain ⟨r0, hl0⟩ := hl0
  refine wpIn_rangeFunc_ownN (l₀ := l0) rfl hl0 (by omega) (gf := 36) (lb := #[.pointer (some ⟨bx, 0, none⟩)]) hg trivial (enters_of Try.func36 (by kernel_rfl) rfl)
    ((all_stops (n - 1) (by omega) bx (fun _ => False) (fun _ h => h.elim) D hbx).inRound l0) (fun {_ _ _} h k => h.t k) (fun W l o o' _ hl hc _ => Kc.b W l o o' hl hc) (Below.refl _ _) (fun _ => rfl)
    (fun _ W => I W) (fun _ _ _ => False) hI (fun c s A B row hs hg hr => hs) h0
    (fun x a' _ => a' = { tmps := a.tmps.setIfInBounds p0 (wdV x.1), defers := [] })
    (fun x a' _ X Y row hs hg hr => hs)
    (fun l pre x W K hi hK => by
      have := wpIn_skip (F := (Fence.wide.inRound l0).inRound l) (n := n - 1 - 1) (P := Try.prog) (Q := Exit.then K (fun _ _ _ => False)) (a := { tmps := a.tmps.setIfInBounds p0 (wdV x.1), defers := [] }) (w := W) (hK _ W (KeepsFrom.refl _ _) (Kc.refl W) hi rfl)
      simpa using this)
    (fun l pre x a' W h1 h2 h3 h4 h5 => by rw [hw] at h5; simp at h5) (fun xs W _ hi => hdone W hi) (fun c pre W _ h => h.elim)
section
variable {w W W' : World} {d p b r f y h l : Nat} {L : Lay} {B : List UInt8} {o s : Bool}
theorem Onb.others (O : Onb b d W W') (D : Dc W d p b L r f y B o s h l) : KeepsOthers W W' := ⟨O.size, fun k ob hk ho => (O.block k (Array.getElem?_eq_some_iff.1 hk).1 (fun e => by
  have := D.im.by_
  unfold Bk at this
  subst e
  rw [hk] at this
  injection this with this
  subst this
  cases ho) (fun e => by
  have := D.bk
  unfold Bk at this
  subst e
  rw [hk] at this
  injection this with this
  subst this
  cases ho)).trans hk⟩
theorem below_others (h : Below W.heap.size W W') : KeepsOthers W W' := ⟨h.size, fun k ob hk _ => (h.block k (Array.getElem?_eq_some_iff.1 hk).1).trans hk⟩
theorem Onb.kc {X : Nat → Prop} (O : Onb b d W W') (h1 : X b) (h2 : X d) : Kc X W W' := ⟨O.size, fun k ob hk _ hx => (O.block k (Array.getElem?_eq_some_iff.1 hk).1 (fun e => hx (e ▸ h1)) (fun e => hx (e ▸ h2))).trans hk⟩
theorem Kc.set {X : Nat → Prop} {W : World} {q : Addr} (v : Value) (hq : X q.block) : Kc X W (W.setCell q v) := ⟨by rw [World.size_setCell]; exact Nat.le_refl _, fun i ob hi _ hx => (Below.heap_setCell W q v i (fun e => hx (e ▸ hq))).trans hi⟩
/-- Create, whatever comes of it -/
theorem cr_dc (D : Dc W d p b L 3 f y B false false h l) (hf0 : 0 < f) (hl : l < h) (nm : ByteArray) (hs : nm.size ≤ maxLen) : Calls Try.prog 14 #[.pointer (some ⟨d, 0, none⟩), .string nm] W fun e w' =>
    (∃ v, e = .returned v) ∧ (∃ (B' : List UInt8) (h' l' : Nat), Dc w' d p b L 3 f y B' false false h' l' ∧ f ≤ h' ∧ ∀ X, Chain B f y h l X → ∃ X', Chain B' f y h' l' X' ∧ X'.length ≤ X.length + 1) ∧ Onb b d W w' := by
  have hlo := D.lo
  have hok := D.ok
  have hlen := D.im.len
  by_cases hn : nameOk nm = true
  · by_cases hf : y < upN h + (8 + upN (1 + nm.size))
    · refine (cr_full D nm hs hn hf).mono ?_
      rintro e w' ⟨rfl, hb⟩
      exact ⟨⟨_, rfl⟩, ⟨B, h, l, D.bel hb, hlo, fun X hX => ⟨X, hX, by omega⟩⟩, Onb.ofbel hb⟩
    · refine (cr_yes D nm hs hn hf rfl).mono ?_
      rintro e w' ⟨rfl, D2, hO⟩
      have hnz : 1 ≤ nm.size ∧ nm.size ≤ 31 := by
        have : 1 ≤ nm.size ∧ nm.size ≤ 31 ∧ stop isInk nm 0 = nm.size := by simpa [nameOk] using hn
        exact ⟨this.1, this.2.1⟩
      have hu := upN_le h
      exact ⟨⟨_, rfl⟩, ⟨_, _, _, D2, D2.lo, fun X hX => ⟨_, chain_cr nm hnz.1 hnz.2 hlo hf0 hf (by omega) (by omega) (by omega) hX, by simp⟩⟩, hO⟩
  · refine (cr_name D nm hs (by simpa using hn)).mono ?_
    rintro e w' ⟨rfl, hb⟩
    exact ⟨⟨_, rfl⟩, ⟨B, h, l, D.bel hb, hlo, fun X hX => ⟨X, hX, by omega⟩⟩, Onb.ofbel hb⟩
end
theorem run_all_nil (g : Nat) (xs : Array Value) (w : World) : (binOp BinOp.eql 44 (Value.func (Fn.func g) #[] xs) Value.nilFunc).run Try.prog w = .ok (.bool false) w := by kernel_rfl
/-! a still region whose operations are guarded: the guard by reckoning, not by simp -/
theorem still_want {P : Program} {ops : Array Oper} {w : World} {Q : Act → Prop} {a : Act} {o : Oper} {rest : List Oper} (hw : Region.wanted o (yielded ops a.tmps) = true) (h : ∀ K : Act → Prop, (∀ a, wpStill P ops w Q rest a → K a) → o.still P a w K) : wpStill P ops w Q (o :: rest) a :=
  wpStill_step (fun K hK => by rw [if_pos hw]; exact h K hK)
theorem still_skip {P : Program} {ops : Array Oper} {w : World} {Q : Act → Prop} {a : Act} {o : Oper} {rest : List Oper} (hw : Region.wanted o (yielded ops a.tmps) = false) (h : ∀ K : Act → Prop, (∀ a, wpStill P ops w Q rest a → K a) → K (a.put o.dst undef)) : wpStill P ops w Q (o :: rest) a :=
  wpStill_step (fun K hK => by rw [if_neg (by rw [hw]; exact Bool.false_ne_true)]; exact h K hK)
theorem still_skipG {P : Program} {ops : Array Oper} {w : World} {Q : Act → Prop} {a : Act} {o : Oper} {rest : List Oper} (j : Nat) (want b : Bool) (hg : o.guard = some (j, want)) (hy : yielded ops a.tmps j = some b) (hb : (some b == some want) = false) (h : ∀ K : Act → Prop, (∀ a, wpStill P ops w Q rest a → K a) → K (a.put o.dst undef)) : wpStill P ops w Q (o :: rest) a :=
  still_skip (by unfold Region.wanted; rw [hg]; simp only [hy, hb]) h
/-- the boxes that stay -/
structure Rg (w : World) (sb q db : Nat) (st : Int) (d : Nat) (W : World) : Prop where
  stp : Bk W sb 3 #[.int .i64 st]
  res : Bk W q 4 #[.bool false]
  dbx : Bk W db 30 #[.pointer (some ⟨d, 0, none⟩)]
  bel : Below w.heap.size w W
section
variable {w W W' : World} {sb q db d p b r f y h l : Nat} {st : Int} {L : Lay} {B : List UInt8} {o s : Bool}
theorem Rg.kept (R : Rg w sb q db st d W) (hb : Below W.heap.size W W') : Rg w sb q db st d W' := ⟨R.stp.kept hb R.stp.lt, R.res.kept hb R.res.lt, R.dbx.kept hb R.dbx.lt, R.bel.trans (hb.mono R.bel.size)⟩
theorem Rg.draws (R : Rg w sb q db st d W) (n : Nat) : Rg w sb q db st d (W.drewN n) := ⟨R.stp.draws n, R.res.draws n, R.dbx.draws n, below_drawn R.bel n⟩
theorem Rg.onb (R : Rg w sb q db st d W) (D : Dc W d p b L r f y B o s h l) (O : Onb b d W W') (z2 : w.heap.size ≤ b) (z3 : w.heap.size ≤ d) : Rg w sb q db st d W' :=
  ⟨O.bk R.stp (R.stp.ne D.im.by_ (by decide)) (R.stp.ne D.bk (by decide)), O.bk R.res (R.res.ne D.im.by_ (by decide)) (R.res.ne D.bk (by decide)), O.bk R.dbx (R.dbx.ne D.im.by_ (by decide)) (R.dbx.ne D.bk (by decide)), R.bel.trans (O.below z2 z3 R.bel.size)⟩
theorem Rg.put (R : Rg w sb q db st d W) {k : Nat} (hk : w.heap.size ≤ k) (h1 : sb ≠ k) (h2 : q ≠ k) (h3 : db ≠ k) (v : Value) : Rg w sb q db st d (W.setCell ⟨k, 0, none⟩ v) :=
  ⟨R.stp.other (p := ⟨k, 0, none⟩) h1 v, R.res.other (p := ⟨k, 0, none⟩) h2 v, R.dbx.other (p := ⟨k, 0, none⟩) h3 v, R.bel.setCell (p := ⟨k, 0, none⟩) hk v⟩
theorem Rg.own {β : Type} (K : Nat) (hK : w.heap.size ≤ K) : OwnFrom K (fun (_ : β) W => Rg w sb q db st d W) := fun s A A' row hs hg hr =>
  have hr2 := fun r e => (hr r e).2
  ⟨own_bk _ _ _ s A A' row hs.stp hg hr2, own_bk _ _ _ s A A' row hs.res hg hr2, own_bk _ _ _ s A A' row hs.dbx hg hr2, ownFrom_below (Nat.le_refl _) hK s A A' row hs.bel hg hr⟩
theorem own_size {β : Type} (K K0 : Nat) : OwnFrom K (fun (_ : β) W => K0 ≤ W.heap.size) := fun s A A' row hs hg hr => Nat.le_trans hs hg.size
theorem own_def {β : Type} (K D : Nat) (o : Obj) (hD : D < K) : OwnFrom K (fun (_ : β) W => W.heap[D]? = some o) := fun s A B row hs hg hr => (hg.block D (Array.getElem?_eq_some_iff.1 hs).1 (fun e => by have := (hr D e.symm).1; omega)).trans hs
end
/-- the boxes of the second range -/
structure Bxs (w : World) (sb q db : Nat) (st : Int) (d kx nx ev D1 K0 m : Nat) (v : Nat) (W : World) : Prop where
  k : Bk W kx 3 #[.int .i64 (v : Nat)]
  r : Rg w sb q db st d W
  n : Bk W nx 3 #[.int .i64 (m : Nat)]
  e : Bk W ev 30 #[.pointer (some ⟨d, 0, none⟩)]
  d1 : W.heap[D1]? = some (.deferred (some []))
  z : K0 ≤ W.heap.size
  lt : sb < kx ∧ q < kx ∧ db < kx ∧ nx < kx ∧ ev < kx ∧ w.heap.size ≤ kx ∧ kx < K0 ∧ D1 < K0
section
variable {w W W' : World} {sb q db d p b r f y h l kx nx ev D1 K0 m v : Nat} {st : Int} {L : Lay} {B : List UInt8} {o s : Bool}
theorem Bxs.onb (S : Bxs w sb q db st d kx nx ev D1 K0 m v W) (D : Dc W d p b L r f y B o s h l) (O : Onb b d W W') (z2 : w.heap.size ≤ b) (z3 : w.heap.size ≤ d) : Bxs w sb q db st d kx nx ev D1 K0 m v W' :=
  ⟨O.bk S.k (S.k.ne D.im.by_ (by decide)) (S.k.ne D.bk (by decide)), S.r.onb D O z2 z3, O.bk S.n (S.n.ne D.im.by_ (by decide)) (S.n.ne D.bk (by decide)), O.bk S.e (S.e.ne D.im.by_ (by decide)) (S.e.ne D.bk (by decide)),
    (O.others D).same _ _ S.d1 rfl, Nat.le_trans S.z O.size, S.lt⟩
theorem Bxs.kept (S : Bxs w sb q db st d kx nx ev D1 K0 m v W) (hb : Below W.heap.size W W') : Bxs w sb q db st d kx nx ev D1 K0 m v W' :=
  ⟨S.k.kept hb S.k.lt, S.r.kept hb, S.n.kept hb S.n.lt, S.e.kept hb S.e.lt, (below_others hb).same _ _ S.d1 rfl, Nat.le_trans S.z hb.size, S.lt⟩
theorem Bxs.draws (S : Bxs w sb q db st d kx nx ev D1 K0 m v W) (i : Nat) : Bxs w sb q db st d kx nx ev D1 K0 m v (W.drewN i) := ⟨S.k.draws i, S.r.draws i, S.n.draws i, S.e.draws i, S.d1, S.z, S.lt⟩
theorem Bxs.put (S : Bxs w sb q db st d kx nx ev D1 K0 m v W) (v' : Nat) : Bxs w sb q db st d kx nx ev D1 K0 m v' (W.setCell ⟨kx, 0, none⟩ (.int .i64 (v' : Nat))) := by
  have hl := S.lt
  exact ⟨S.k.put 0 _, S.r.put hl.2.2.2.2.2.1 (by omega) (by omega) (by omega) _, S.n.other (p := ⟨kx, 0, none⟩) (by show nx ≠ kx; omega) _, S.e.other (p := ⟨kx, 0, none⟩) (by show ev ≠ kx; omega) _,
    (KeepsOthers.setCell _ _ _).same _ _ S.d1 rfl, by rw [World.size_setCell]; exact S.z, hl⟩
theorem Bxs.own (K : Nat) (hK : K0 ≤ K) : OwnFrom K (fun (pre : List NW) W => Bxs w sb q db st d kx nx ev D1 K0 m pre.length W) := fun s A A' row hs hg hr =>
  have hr2 := fun r e => (hr r e).2
  have hl := hs.lt
  ⟨own_bk _ _ _ s A A' row hs.k hg hr2, Rg.own K (by omega) s A A' row hs.r hg hr, own_bk _ _ _ s A A' row hs.n hg hr2, own_bk _ _ _ s A A' row hs.e hg hr2, own_def K D1 _ (by omega) s A A' row hs.d1 hg hr, Nat.le_trans hs.z hg.size, hs.lt⟩
theorem Bxs.own' {β : Type} (K : Nat) (hK : K0 ≤ K) : OwnFrom K (fun (_ : β) W => Bxs w sb q db st d kx nx ev D1 K0 m v W) := fun s A A' row hs hg hr =>
  have hr2 := fun r e => (hr r e).2
  have hl := hs.lt
  ⟨own_bk _ _ _ s A A' row hs.k hg hr2, Rg.own K (by omega) s A A' row hs.r hg hr, own_bk _ _ _ s A A' row hs.n hg hr2, own_bk _ _ _ s A A' row hs.e hg hr2, own_def K D1 _ (by omega) s A A' row hs.d1 hg hr, Nat.le_trans hs.z hg.size, hs.lt⟩
end
/-- where the list stands in the second range -/
def Stands (d p b : Nat) (L : Lay) (f y : Nat) (X : List Wd) (pre : List NW) (W : World) : Prop :=
  ∃ (B1 : List UInt8) (h1 t1 : Nat), Dc W d p b L 3 f y B1 false false h1 t1 ∧ t1 < h1 ∧ (pre = [] → Chain B1 f y h1 t1 X) ∧ (pre ≠ [] → t1 = 0)
theorem own_stands (K d p b : Nat) (L : Lay) (f y : Nat) (X : List Wd) : OwnFrom K (Stands d p b L f y X) := fun s A A' row hs hg hr => by
  obtain ⟨B1, h1, t1, D, h2⟩ := hs
  exact ⟨B1, h1, t1, own_dc _ _ _ _ _ _ _ _ _ _ _ _ s A A' row D hg (fun r e => (hr r e).2), h2⟩
theorem own_kc {β : Type} (K : Nat) (X : Nat → Prop) (W : World) : OwnFrom K (fun (_ : β) V => Kc X W V) := fun s A A' row hs hg hr =>
  ⟨Nat.le_trans hs.size hg.size, fun k ob hk ho hx => (hg.block k (Array.getElem?_eq_some_iff.1 (hs.keep k ob hk ho hx)).1 (fun e => by
    obtain ⟨_, o2, ho2, hc2⟩ := hr k e.symm
    rw [hs.keep k ob hk ho hx] at ho2
    injection ho2 with ho2
    subst ho2
    rw [ho] at hc2
    cases hc2)).trans (hs.keep k ob hk ho hx)⟩
theorem Stands.put {d p b : Nat} {L : Lay} {f y : Nat} {X : List Wd} {pre : List NW} {W : World} {k : Nat} {vs : Array Value} (h : Stands d p b L f y X pre W) (hk : Bk W k 3 vs) (v : Value) : Stands d p b L f y X pre (W.setCell ⟨k, 0, none⟩ v) := by
  obtain ⟨B1, h1, t1, D, h2⟩ := h
  exact ⟨B1, h1, t1, D.far (q := ⟨k, 0, none⟩) (hk.ne D.im.st (by decide)).symm (hk.ne D.im.by_ (by decide)).symm (hk.ne D.bk (by decide)).symm _, h2⟩
theorem Stands.draws {d p b : Nat} {L : Lay} {f y : Nat} {X : List Wd} {pre : List NW} {W : World} (h : Stands d p b L f y X pre W) (n : Nat) : Stands d p b L f y X pre (W.drewN n) := by
  obtain ⟨B1, h1, t1, D, h2⟩ := h
  exact ⟨B1, h1, t1, D.draws n, h2⟩
theorem keepsFrom_draws {K : Nat} {A B : World} (h : KeepsFrom K A B) (n : Nat) : KeepsFrom K A (B.drewN n) := ⟨h.size, h.same⟩
theorem Kc.draws {X : Nat → Prop} {A B : World} (h : Kc X A B) (n : Nat) : Kc X A (B.drewN n) := ⟨h.size, h.keep⟩
def nmMore : ByteArray := ⟨#[109, 111, 114, 101]⟩
end Go.Proofs.Ytoaiiimnfgbcaaa
