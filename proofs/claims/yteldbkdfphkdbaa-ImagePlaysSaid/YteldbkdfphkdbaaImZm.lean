import Derived.Test.YteldbkdfphkdbaaImZl
namespace Go.Proofs.Yteldbkdfphkdbaa
open Go.RowKit
set_option linter.unusedVariables false
set_option linter.unusedSimpArgs false
/-! play: one call on both images -/
section
variable {v0 w : World} {F : List (Nat × TypeId × Array Value)} {pp p b p2 b2 y : Nat} {L : Lay} {B B2 : List UInt8} {o s o2' s2 : Bool} {o0 o1 o2 o3 o4 o5 o6 : Int} {fr : Bool} {tx : ByteArray}
theorem bo_A (h : Tw (Bo v0 F pp p p2 y o0 o1 o2 o3 o4 o5 o6 fr tx) w p b p2 b2 L B o s B2 o2' s2) : w.cell? ⟨y, 0, none⟩ = some (.int .i64 o0) ∧ w.cell? ⟨y, 1, none⟩ = some (.int .i64 o1) ∧ w.cell? ⟨y, 3, none⟩ = some (.int .i64 o3) ∧ w.cell? ⟨y, 4, none⟩ = some (.int .i64 o4) ∧ w.cell? ⟨y, 7, none⟩ = some (.bool fr) :=
  ⟨h.top.cell 0, h.top.cell 1, h.top.cell 3, h.top.cell 4, h.top.cell 7⟩
theorem Tw.swap {x z : Nat × TypeId × Array Value} {G : List (Nat × TypeId × Array Value)} (h : Tw ⟨v0, x :: z :: G⟩ w p b p2 b2 L B o s B2 o2' s2) : Tw ⟨v0, z :: x :: G⟩ w p b p2 b2 L B o s B2 o2' s2 :=
  ⟨h.im, h.rf, h.nb, h.lo, h.be, fun q hq => by
    rcases List.mem_cons.1 hq with rfl | hq
    · exact h.fr _ (List.mem_cons_of_mem _ List.mem_cons_self)
    · rcases List.mem_cons.1 hq with rfl | hq
      · exact h.fr _ List.mem_cons_self
      · exact h.fr _ (List.mem_cons_of_mem _ (List.mem_cons_of_mem _ hq))⟩
theorem place_bo (h : Tw (Bo v0 F pp p p2 y o0 o1 o2 o3 o4 o5 o6 fr tx) w p b p2 b2 L B o s B2 o2' s2) (r n : Int) (hr : inI r) (hn : inI n) :
    Calls Try.prog 47 #[.pointer (some ⟨pp, 0, none⟩), .agg #[.int .i64 o0, .int .i64 o1, .int .i64 o2, .int .i64 o3, .int .i64 o4, .int .i64 o5, .int .i64 o6, .bool fr, .string tx], .int .i64 r, .int .i64 n] w fun e w' => ∃ v, e = .returned (.int .i64 v) ∧ inI v ∧ Hid (Tw (Bo v0 F pp p p2 y o0 o1 o2 o3 o4 o5 o6 fr tx) w' p b p2 b2 L B o s B2 o2' s2) :=
  (place_any (Tw.swap h) o0 o1 o2 o3 o4 o5 o6 r n fr tx hr hn).mono fun e w' ⟨v, h1, h2, h3⟩ => ⟨v, h1, h2, Lib.hid (Tw.swap h3.out)⟩
end
end Go.Proofs.Yteldbkdfphkdbaa
