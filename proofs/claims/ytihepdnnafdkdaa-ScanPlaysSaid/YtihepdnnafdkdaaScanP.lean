import Derived.Test.YtihepdnnafdkdaaScanO
import Derived.Test.YtihepdnnafdkdaaScanG
import Derived.Laws.IdiomStrings
namespace Go.Proofs.Ytihepdnnafdkdaa
open Go.RowKit
set_option linter.unusedVariables false
set_option linter.unusedSimpArgs false
/-! what a slice of the call's own is worth over calls, new blocks, appends -/
def u8s (l : List UInt8) : List Value := l.map fun c => Value.int .u8 (c.toNat : Int)
def strs (l : List ByteArray) : List Value := l.map Value.string
theorem own_only {W W' : World} {g base size n : Nat} {e : TypeId} {v : Value} {xs : List Value} (h : W.ownsRow base e size v n xs) (ho : Only g W W') (hg : g < base) : W'.ownsRow base e size v n xs := by
  refine ⟨h.1, ?_⟩
  rcases h.2 with hn | ⟨k, cap, cur, rfl, hb, hgg, rest⟩
  · exact .inl hn
  · refine .inr ⟨k, cap, cur, rfl, hb, ?_, rest⟩
    rw [ho.block k (Array.getElem?_eq_some_iff.1 hgg).1 (by omega)]
    exact hgg
theorem own_far {W : World} {b b' n n' size size' : Nat} {e e' : TypeId} {v v' : Value} {xs ys : List Value} (h : W.ownsRow b e size v n xs) (h' : W.ownsRow b' e' size' v' n' ys) (hne : e ≠ e') : v.ownBlock = none ∨ v.ownBlock ≠ v'.ownBlock := by
  rcases h.2 with ⟨rfl, _⟩ | ⟨g, cap, cur, rfl, _, hg, _⟩
  · exact .inl rfl
  · right
    rcases h'.2 with ⟨rfl, _⟩ | ⟨g', cap', cur', rfl, _, hg', _⟩
    · simp [Value.ownBlock]
    · simp only [Value.ownBlock]
      intro e1
      injection e1 with e1
      subst e1
      rw [hg] at hg'
      injection hg' with hg'
      injection hg' with _ ht
      exact hne ht
theorem Bk.grown {W W' : World} {b : Nat} {t : TypeId} {vs : Array Value} {row : Option Nat} (h : Bk W b t vs) (hg : W.grownBy W' row) (hn : some b ≠ row) : Bk W' b t vs := (hg.block b h.lt hn).trans h
/-- the first loop's state -/
structure Wd (W0 W : World) (base sb : Nat) (s : ByteArray) (k : Nat) (x : UInt8) (vw : Value) (ws : List ByteArray) (vb : Value) (L : List UInt8) : Prop where
  src : Src W sb s k
  own1 : W.ownsRow base 9 1 vw ws.length (strs ws)
  own2 : W.ownsRow base 5 1 vb L.length (u8s L)
  below : Below sb W0 W
  size : base ≤ W.heap.size
  lt : sb < base
section
variable {W0 W W' : World} {base sb : Nat} {s : ByteArray} {k k' : Nat} {x : UInt8} {vw : Value} {ws : List ByteArray} {vb : Value} {L : List UInt8}
theorem Wd.only (h : Wd W0 W base sb s k x vw ws vb L) (ho : Only sb W W') (hs : Src W' sb s k') (hsb : sb ≤ W.heap.size) : Wd W0 W' base sb s k' x vw ws vb L :=
  ⟨hs, own_only h.own1 ho h.lt, own_only h.own2 ho h.lt, h.below.trans (ho.below (Nat.le_refl _) hsb), Nat.le_trans h.size ho.size, h.lt⟩
theorem Wd.alloc (h : Wd W0 W base sb s k x vw ws vb L) (o : Obj) : Wd W0 (W.alloc o) base sb s k x vw ws vb L :=
  ⟨h.src.past o, h.own1.alloc o, h.own2.alloc o, h.below.alloc (by have := h.size; have := h.lt; omega) o, by have := h.size; simp; omega, h.lt⟩
theorem Wd.grow1 (h : Wd W0 W base sb s k x vw ws vb L) {v' : Value} {w : ByteArray} (ho : W'.ownsRow base 9 1 v' (ws.length + 1) (strs ws ++ [.string w])) (hg : W.grownBy W' vw.ownBlock) : Wd W0 W' base sb s k x v' (ws ++ [w]) vb L := by
  have hr : ∀ k, vw.ownBlock = some k → base ≤ k := fun k e => (h.own1.lt k e).1
  refine ⟨h.src.grown hg (fun e => ?_), ?_, h.own2.kept hg (own_far h.own2 h.own1 (by decide)), h.below.grown hg ?_ (fun k e => ?_), Nat.le_trans h.size hg.size, h.lt⟩
  · have := hr _ e.symm; have := h.lt; omega
  · simpa [strs] using ho
  · have := h.size; have := h.lt; omega
  · have := hr _ e; have := h.lt; omega
theorem Wd.grow2 (h : Wd W0 W base sb s k x vw ws vb L) {v' : Value} {m : Nat} {M : List UInt8} (ho : W'.ownsRow base 5 1 v' (L.length + m) (u8s L ++ u8s M)) (hm : M.length = m) (hg : W.grownBy W' vb.ownBlock) : Wd W0 W' base sb s k x vw ws v' (L ++ M) := by
  have hr : ∀ k, vb.ownBlock = some k → base ≤ k := fun k e => (h.own2.lt k e).1
  refine ⟨h.src.grown hg (fun e => ?_), h.own1.kept hg (own_far h.own1 h.own2 (by decide)), ?_, h.below.grown hg ?_ (fun k e => ?_), Nat.le_trans h.size hg.size, h.lt⟩
  · have := hr _ e.symm; have := h.lt; omega
  · have e1 : L.length + m = (L ++ M).length := by simp [hm]
    have e2 : u8s L ++ u8s M = u8s (L ++ M) := by simp [u8s]
    rw [e1, e2] at ho; exact ho
  · have := h.size; have := h.lt; omega
  · have := hr _ e; have := h.lt; omega
end
theorem info_str : (Try.prog.info? 9).map (fun i => (i.zero, i.size, i.bytes)) = some (some (.string ByteArray.empty), 1, 16) := by kernel_rfl
theorem info_u8 : (Try.prog.info? 5).map (fun i => (i.zero, i.size, i.bytes)) = some (some (.int .u8 0), 1, 1) := by kernel_rfl
end Go.Proofs.Ytihepdnnafdkdaa
