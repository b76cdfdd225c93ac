import Derived.Test.YteldbkdfphkdbaaImZe
import Derived.Test.YteldbkdfphkdbaaImT
namespace Go.Proofs.Yteldbkdfphkdbaa
open Go.RowKit
set_option linter.unusedVariables false
set_option linter.unusedSimpArgs false
/-! both images: the program's and the document's -/
/-- a world to begin with, and blocks beside that stay as they are -/
structure Bas where
  w : World
  F : List (Nat × TypeId × Array Value)
structure Tw (w0 : Bas) (W : World) (p b p2 b2 : Nat) (L : Lay) (B : List UInt8) (o s : Bool) (B2 : List UInt8) (o2 s2 : Bool) : Prop where
  im : Im W p b L B o s
  rf : RIm W p2 b2 L B2 o2 s2
  nb : b ≠ b2
  lo : w0.w.heap.size ≤ p ∧ w0.w.heap.size ≤ b ∧ w0.w.heap.size ≤ p2 ∧ w0.w.heap.size ≤ b2
  be : Below w0.w.heap.size w0.w W
  fr : ∀ x ∈ w0.F, Bk W x.1 x.2.1 x.2.2 ∧ x.1 ≠ p ∧ x.1 ≠ b ∧ x.1 ≠ p2 ∧ x.1 ≠ b2
section
variable {w0 : Bas} {W W' : World} {p b p2 b2 : Nat} {L : Lay} {B B' B2 : List UInt8} {o s o' s' o2 s2 : Bool}
theorem Tw.bel (h : Tw w0 W p b p2 b2 L B o s B2 o2 s2) (hb : Below W.heap.size W W') : Tw w0 W' p b p2 b2 L B o s B2 o2 s2 :=
  ⟨h.im.bel hb, h.rf.bel hb, h.nb, h.lo, h.be.trans (hb.mono h.be.size), fun x hx => ⟨(h.fr x hx).1.kept hb (h.fr x hx).1.lt, (h.fr x hx).2⟩⟩
theorem Tw.draws (h : Tw w0 W p b p2 b2 L B o s B2 o2 s2) (n : Nat) : Tw w0 (W.drewN n) p b p2 b2 L B o s B2 o2 s2 := h.bel ⟨rfl, rfl, rfl, Nat.le_refl _, fun _ _ => rfl⟩
theorem Tw.drew (h : Tw w0 W p b p2 b2 L B o s B2 o2 s2) : Tw w0 W.drew p b p2 b2 L B o s B2 o2 s2 := h.draws 1
theorem Tw.leftB (h : Tw w0 W p b p2 b2 L B o s B2 o2 s2) (hI : Im W' p b L B' o' s') (hO : Only b W W') : Tw w0 W' p b p2 b2 L B' o' s' B2 o2 s2 :=
  ⟨hI, h.rf.only hO (h.rf.st.ne h.im.by_ (by decide)) h.nb.symm, h.nb, h.lo, h.be.trans (hO.below h.lo.2.1 h.be.size), fun x hx => ⟨hO.bk (h.fr x hx).1 (h.fr x hx).2.2.1, (h.fr x hx).2⟩⟩
theorem Tw.leftP (h : Tw w0 W p b p2 b2 L B o s B2 o2 s2) (hI : Im W' p b L B' o' s') (hO : Only p W W') : Tw w0 W' p b p2 b2 L B' o' s' B2 o2 s2 :=
  ⟨hI, h.rf.only hO (h.rf.st.ne h.im.st (by decide)) (h.rf.by_.ne h.im.st (by decide)), h.nb, h.lo, h.be.trans (hO.below h.lo.1 h.be.size), fun x hx => ⟨hO.bk (h.fr x hx).1 (h.fr x hx).2.1, (h.fr x hx).2⟩⟩
theorem Tw.rightB {B3 : List UInt8} {o3 s3 : Bool} (h : Tw w0 W p b p2 b2 L B o s B2 o2 s2) (hI : RIm W' p2 b2 L B3 o3 s3) (hO : Only b2 W W') : Tw w0 W' p b p2 b2 L B o s B3 o3 s3 :=
  ⟨⟨h.im.ok, hO.bk h.im.st (h.im.st.ne h.rf.by_ (by decide)), hO.bk h.im.by_ h.nb, h.im.len⟩, hI, h.nb, h.lo, h.be.trans (hO.below h.lo.2.2.2 h.be.size), fun x hx => ⟨hO.bk (h.fr x hx).1 (h.fr x hx).2.2.2.2, (h.fr x hx).2⟩⟩
theorem Tw.rightP {B3 : List UInt8} {o3 s3 : Bool} (h : Tw w0 W p b p2 b2 L B o s B2 o2 s2) (hI : RIm W' p2 b2 L B3 o3 s3) (hO : Only p2 W W') : Tw w0 W' p b p2 b2 L B o s B3 o3 s3 :=
  ⟨⟨h.im.ok, hO.bk h.im.st (h.im.st.ne h.rf.st (by decide)), hO.bk h.im.by_ (h.im.by_.ne h.rf.st (by decide)), h.im.len⟩, hI, h.nb, h.lo, h.be.trans (hO.below h.lo.2.2.1 h.be.size), fun x hx => ⟨hO.bk (h.fr x hx).1 (h.fr x hx).2.2.2.1, (h.fr x hx).2⟩⟩
/-- a block beside is laid in -/
theorem Tw.put (h : Tw w0 W p b p2 b2 L B o s B2 o2 s2) {g : Nat} {T : TypeId} {vs : Array Value} (hB : Bk W g T vs) (h1 : g ≠ p) (h2 : g ≠ b) (h3 : g ≠ p2) (h4 : g ≠ b2) : Tw ⟨w0.w, (g, T, vs) :: w0.F⟩ W p b p2 b2 L B o s B2 o2 s2 :=
  ⟨h.im, h.rf, h.nb, h.lo, h.be, fun x hx => by rcases List.mem_cons.1 hx with rfl | hx; exact ⟨hB, h1, h2, h3, h4⟩; exact h.fr x hx⟩
/-- a block that is new -/
theorem Tw.made (h : Tw w0 W p b p2 b2 L B o s B2 o2 s2) (T : TypeId) (vs : Array Value) : Tw ⟨w0.w, (W.heap.size, T, vs) :: w0.F⟩ (W.alloc (.cells vs T)) p b p2 b2 L B o s B2 o2 s2 := by
  have l1 := h.im.st.lt
  have l2 := h.im.by_.lt
  have l3 := h.rf.st.lt
  have l4 := h.rf.by_.lt
  exact (h.bel ((Below.refl _ _).alloc (Nat.le_refl _) _)).put (Bk.fresh W T vs) (by omega) (by omega) (by omega) (by omega)
theorem Tw.drop {x : Nat × TypeId × Array Value} {F : List (Nat × TypeId × Array Value)} {v0 : World} (h : Tw ⟨v0, x :: F⟩ W p b p2 b2 L B o s B2 o2 s2) : Tw ⟨v0, F⟩ W p b p2 b2 L B o s B2 o2 s2 :=
  ⟨h.im, h.rf, h.nb, h.lo, h.be, fun y hy => h.fr y (List.mem_cons_of_mem _ hy)⟩
theorem Tw.top {g : Nat} {T : TypeId} {vs : Array Value} {F : List (Nat × TypeId × Array Value)} {v0 : World} (h : Tw ⟨v0, (g, T, vs) :: F⟩ W p b p2 b2 L B o s B2 o2 s2) : Bk W g T vs := (h.fr _ List.mem_cons_self).1
end
end Go.Proofs.Yteldbkdfphkdbaa
