import Derived.Test.YtmmfjonoenmplaaDoorPostRec
import Derived.Test.YtmmfjonoenmplaaDoorGbE
import Derived.Test.YtmmfjonoenmplaaDoorRows
import Derived.ProofKit
import Derived.LaidMore
import Derived.Lay
import Derived.OpenShut
import Derived.Stop.Joined
import Derived.Lib.LaidTab
import Derived.Stop.LaidErr
namespace Go.Proofs.YtmmfjonoenmplaaDoor
open Go.ChangeShapes Go.WideShapes Go.ChangeAt Go.WideMaps Go.WideElems Go.RowKit
set_option linter.unusedVariables false
set_option linter.unusedSimpArgs false
def laidL : List (String × DataW Unit) := [("math/bits.deBruijn32tab", Rows.laid_math_bits_deBruijn32tab), ("math/bits.deBruijn64tab", Rows.laid_math_bits_deBruijn64tab), ("internal/strconv.uint64pow10", Rows.laid_internal_strconv_uint64pow10), ("strconv.ErrRange", Rows.laid_strconv_ErrRange), ("strconv.ErrSyntax", Rows.laid_strconv_ErrSyntax)]
theorem gTab : Tryd.prog.globalNamed "internal/strconv.uint64pow10" = some 2 := by kernel_rfl
theorem tTab : (Tryd.prog.globals[2]?).map (·.type) = some 125 := by kernel_rfl
theorem cTab : Tryd.prog.cellsOf 88 = 1 := by kernel_rfl
theorem cTabs : Tryd.prog.cellsOf 125 = 20 := by kernel_rfl
theorem tabEq : (Rows.laid_internal_strconv_uint64pow10 : DataW Unit) = Lib.tabData .u64 Lib.pow10Tab := by
  unfold Rows.laid_internal_strconv_uint64pow10 Lib.tabData
  congr 1
theorem gSyn : Tryd.prog.globalNamed "strconv.ErrSyntax" = some 3 := by kernel_rfl
theorem tSyn : (Tryd.prog.globals[3]?).map (·.type) = some 72 := by kernel_rfl
theorem gRan : Tryd.prog.globalNamed "strconv.ErrRange" = some 1 := by kernel_rfl
theorem tRan : (Tryd.prog.globals[1]?).map (·.type) = some 72 := by kernel_rfl
theorem starS : ("*errors.errorString" : String) = "*" ++ "errors.errorString" := by decide
theorem rowE (u : TypeId) (h : Tryd.prog.typeName? 3 u = some "*errors.errorString") : u = 140 :=
  typeName_ptr_named (nm := "errors.errorString") (by rw [← starS]; kernel_rfl) (by kernel_rfl) (by decide) u (by rw [← starS]; exact h)
theorem cStr : Tryd.prog.cellsOf 9 = 1 := by kernel_rfl
theorem cErr : Tryd.prog.cellsOf 142 = 1 := by kernel_rfl
/-- a sentinel: what the variable holds, and that its block is a plain one -/
theorem sentinel_block {P : Program} {n nm : String} {text : List UInt8} {r : List (String × DataW Unit)} {W : World} {g : Nat} {ti tp te ts : TypeId} {ms : Array (String × TypeId)} {f : Field}
    (h : laidMet P ((n, .iface nm (.ptr (.agg [.lit (.string text)]))) :: r) W)
    (hg : P.globalNamed n = some g) (ht : (P.globals[g]?).map (·.type) = some ti) (hi : P.underlying ti = some (.interface ms)) (hrow : ∀ u, P.typeName? 3 u = some nm → u = tp)
    (hp : P.underlying tp = some (.pointer te)) (he : P.underlying te = some (.struct #[f])) (hft : f.type = ts) (hfo : f.offset = 0) (hs : P.underlying ts = some .string) (hc : P.cellsOf te = 1) (hcs : P.cellsOf ts = 1) :
    ∃ (a : Addr) (s : ByteArray) (c : Array Value) (t : TypeId), W.var? P n = some #[.iface tp (.pointer (some a))] ∧ W.cell? a = some (.string s) ∧ s.data.toList = text ∧ W.heap[a.block]? = some (.cells c t (0, 0)) := by
  obtain ⟨ps, ⟨g0, t0, cs0, f0, p0, q0, hg0, ht0, hv0, hd0, _, e0⟩, _, hrows⟩ := h
  obtain rfl := Option.some.inj (hg.symm.trans hg0)
  obtain rfl := Option.some.inj (ht.symm.trans ht0)
  subst e0
  obtain ⟨l0⟩ := cs0
  have ok0 : ∀ u v, l0 = [.iface u v] → Value.okWide P W .any 0 u v := fun u v e => by
    subst e
    exact (hrows g 0 (by simp [MemPlace.row])).2 u v (by simpa using World.var?_cell hg0 hv0 0)
  obtain ⟨a0, s0, rfl, hc0, hs0, hz0, rfl⟩ := errorString_of_trod hi hrow hp he hft hfo hs hc hcs hd0 ok0
  obtain ⟨c0, t0, hb0⟩ := (hrows a0.block a0.off (by simp [MemPlace.row])).1
  exact ⟨a0, s0, c0, t0, hv0, hc0, hs0, hb0⟩
/-- the door's own heap meets the condition -/
theorem door_met (os : Os) (args : Array Value) : laidMetH Tryd.prog laidL ((World.laidAll Tryd.prog os laidL).forCall (fun _ _ => 0) ⟨#[], args, []⟩).memory := by
  rw [MakeChecks.laidMetH_plain _ _ _ (by kernel_rfl)]
  exact laidMet_laidAll _ (by kernel_rfl) (by kernel_rfl)
/-! what the condition gives the walks -/
theorem mark_of {W : World} (h : laidMetH Tryd.prog laidL W) : Mq W := by
  rw [MakeChecks.laidMetH_plain _ _ _ (by kernel_rfl)] at h
  have h2 := laidMet.tail (laidMet.tail h)
  have h3 := laidMet.tail h2
  have h4 := laidMet.tail h3
  rw [tabEq] at h2
  obtain ⟨a1, s1, c1, t1, hv1, hc1, hs1, hb1⟩ := sentinel_block h3 gRan tRan Tryd.underlying72 rowE Tryd.underlying140 Tryd.underlying142 rfl rfl Tryd.underlying9 cErr cStr
  obtain ⟨a2, s2, c2, t2, hv2, hc2, hs2, hb2⟩ := sentinel_block h4 gSyn tSyn Tryd.underlying72 rowE Tryd.underlying140 Tryd.underlying142 rfl rfl Tryd.underlying9 cErr cStr
  refine ⟨Lib.tabIs_of_head gTab tTab Tryd.underlying125 Tryd.underlying88 cTab cTabs h2, a1, a2, ?_, ?_, ?_, ⟨c1, t1, hb1⟩, ⟨c2, t2, hb2⟩⟩
  · simpa [sentV] using World.var?_cell gRan hv1 0
  · simpa [sentV] using World.var?_cell gSyn hv2 0
  · rintro rfl
    rw [hc1] at hc2
    injection hc2 with hc2
    injection hc2 with hc2
    rw [← hc2, hs1] at hs2
    exact absurd hs2 (by decide)
theorem f64_lt {b : Nat} (h : (Lit.float .f64 b).wf = true) : b < 18446744073709551616 := by
  have : b < 2 ^ 64 := by simpa [Lit.wf] using h
  simpa using this
end Go.Proofs.YtmmfjonoenmplaaDoor
