import Derived.WalkKit
import Derived.WalkSpells
import Derived.WalkLawsBesides
import Derived.Deep.QuietTactic
import Derived.BigQuiet
import Derived.Handy
import Derived.Lib.Hide
import Derived.Deep.DeepCutAuto
import Derived.Deep.RegionHeld3
import Derived.Deep.Draws
namespace Go.Proofs.Ytoaiiimnfgbcaaa
open Go.RowKit
set_option linter.unusedVariables false
set_option linter.unusedSimpArgs false
/-! a block that is known whole: what reads, stores, draws, new blocks and calls make of it -/
/-- block b holds just these cells of type t; none of them is frozen -/
def Bk (W : World) (b : Nat) (t : TypeId) (vs : Array Value) : Prop := W.heap[b]? = some (.cells vs t (0, 0))
section
variable {W W' : World} {b : Nat} {t : TypeId} {vs : Array Value}
theorem Bk.lt (h : Bk W b t vs) : b < W.heap.size := by
  unfold Bk at h
  by_cases k : b < W.heap.size
  · exact k
  · rw [Array.getElem?_eq_none (by omega)] at h; cases h
theorem Bk.cell (h : Bk W b t vs) (i : Nat) : W.cell? ⟨b, i, none⟩ = vs[i]? := by
  unfold Bk at h
  simp [World.cell?, h]
theorem Bk.free (h : Bk W b t vs) (i : Nat) : W.frozen? ⟨b, i, none⟩ = false := by
  unfold Bk at h
  simp [World.frozen?, h]
theorem Bk.fresh (W : World) (t : TypeId) (vs : Array Value) : Bk (W.alloc (.cells vs t)) W.heap.size t vs := by
  unfold Bk
  show (W.heap.push _)[W.heap.size]? = _
  simp
theorem Bk.past (h : Bk W b t vs) (o : Obj) : Bk (W.alloc o) b t vs := (Below.heap_alloc W o b h.lt).trans h
theorem Bk.put (h : Bk W b t vs) (i : Nat) (u : Value) : Bk (W.setCell ⟨b, i, none⟩ u) b t (vs.setIfInBounds i u) := by
  unfold Bk at h ⊢
  simp [World.setCell, Array.getElem?_modify, h]
theorem Bk.other (h : Bk W b t vs) {p : Addr} (hp : b ≠ p.block) (u : Value) : Bk (W.setCell p u) b t vs := (Below.heap_setCell W p u b hp).trans h
theorem Bk.draws (h : Bk W b t vs) (n : Nat) : Bk (W.drewN n) b t vs := h
theorem Bk.draw (h : Bk W b t vs) : Bk W.drew b t vs := h
theorem Bk.kept {B : Nat} (h : Bk W b t vs) (hb : Below B W W') (hlt : b < B) : Bk W' b t vs := (hb.block b hlt).trans h
end
/-- only block g has turned, and what is new -/
structure Only (g : Nat) (W W' : World) : Prop where
  os : W'.os = W.os
  tape : W'.tape = W.tape
  output : W'.output = W.output
  size : W.heap.size ≤ W'.heap.size
  block : ∀ k, k < W.heap.size → k ≠ g → W'.heap[k]? = W.heap[k]?
section
variable {g : Nat} {a b c : World}
theorem Only.refl (g : Nat) (a : World) : Only g a a := ⟨rfl, rfl, rfl, Nat.le_refl _, fun _ _ _ => rfl⟩
theorem Only.trans (h : Only g a b) (k : Only g b c) : Only g a c :=
  ⟨k.os.trans h.os, k.tape.trans h.tape, k.output.trans h.output, Nat.le_trans h.size k.size, fun i hi hn => (k.block i (Nat.lt_of_lt_of_le hi h.size) hn).trans (h.block i hi hn)⟩
theorem Only.draws (h : Only g a b) (n : Nat) : Only g a (b.drewN n) := ⟨h.os, h.tape, h.output, h.size, h.block⟩
theorem Only.put (h : Only g a b) (i : Nat) (u : Value) : Only g a (b.setCell ⟨g, i, none⟩ u) :=
  ⟨h.os, h.tape, h.output, by simpa [World.setCell] using h.size, fun k hk hn => (Below.heap_setCell b ⟨g, i, none⟩ u k hn).trans (h.block k hk hn)⟩
theorem Only.past (h : Only g a b) (o : Obj) : Only g a (b.alloc o) :=
  ⟨h.os, h.tape, h.output, Nat.le_trans h.size (by simp), fun k hk hn => (Below.heap_alloc b o k (Nat.lt_of_lt_of_le hk h.size)).trans (h.block k hk hn)⟩
theorem Only.putNew (h : Only g a b) {p : Addr} (hp : a.heap.size ≤ p.block) (u : Value) : Only g a (b.setCell p u) :=
  ⟨h.os, h.tape, h.output, by simpa [World.setCell] using h.size, fun k hk hn => (Below.heap_setCell b p u k (by omega)).trans (h.block k hk hn)⟩
theorem Only.of_below (h : Below a.heap.size a b) (g : Nat) : Only g a b := ⟨h.os, h.tape, h.output, h.size, fun k hk _ => h.block k hk⟩
theorem Only.below (h : Only g a b) {B : Nat} (hg : B ≤ g) (hB : B ≤ a.heap.size) : Below B a b := ⟨h.os, h.tape, h.output, h.size, fun k hk => h.block k (by omega) (by omega)⟩
theorem Only.bk {k : Nat} {t : TypeId} {vs : Array Value} (h : Only g a b) (hk : Bk a k t vs) (hn : k ≠ g) : Bk b k t vs := (h.block k hk.lt hn).trans hk
end
end Go.Proofs.Ytoaiiimnfgbcaaa
