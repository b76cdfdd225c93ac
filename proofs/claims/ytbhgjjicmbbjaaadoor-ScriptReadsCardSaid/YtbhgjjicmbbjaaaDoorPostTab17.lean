import Derived.Test.YtbhgjjicmbbjaaaDoorPostRec
import Derived.Test.YtbhgjjicmbbjaaaDoorTrC
import Derived.Test.YtbhgjjicmbbjaaaDoorRows
import Derived.ProofKit
import Derived.LaidMore
import Derived.Lay
import Derived.OpenShut
import Derived.Stop.Joined
import Derived.Lib.LaidTab
import Derived.Stop.LaidErr
namespace Go.Proofs.YtbhgjjicmbbjaaaDoor
open Go.ChangeShapes Go.WideShapes Go.ChangeAt Go.WideMaps Go.WideElems Go.RowKit
set_option linter.unusedVariables false
set_option linter.unusedSimpArgs false
def laidL : List (String × DataW Unit) := [("math/bits.deBruijn32tab", Rows.laid_math_bits_deBruijn32tab), ("math/bits.deBruijn64tab", Rows.laid_math_bits_deBruijn64tab), ("internal/strconv.uint64pow10", Rows.laid_internal_strconv_uint64pow10), ("strconv.ErrRange", Rows.laid_strconv_ErrRange), ("strconv.ErrSyntax", Rows.laid_strconv_ErrSyntax), ("unicode.White_Space", Rows.laid_unicode_White_Space), ("strings.asciiSpace", Rows.laid_strings_asciiSpace)]
theorem gTab : Tryd.prog.globalNamed "internal/strconv.uint64pow10" = some 5 := by kernel_rfl
theorem tTab : (Tryd.prog.globals[5]?).map (·.type) = some 146 := by kernel_rfl
theorem cTab : Tryd.prog.cellsOf 89 = 1 := by kernel_rfl
theorem cTabs : Tryd.prog.cellsOf 146 = 20 := by kernel_rfl
theorem tabEq : (Rows.laid_internal_strconv_uint64pow10 : DataW Unit) = Lib.tabData .u64 Lib.pow10Tab := by
  unfold Rows.laid_internal_strconv_uint64pow10 Lib.tabData
  congr 1
theorem gAsc : Tryd.prog.globalNamed "strings.asciiSpace" = some 0 := by kernel_rfl
theorem tAsc : (Tryd.prog.globals[0]?).map (·.type) = some 83 := by kernel_rfl
theorem cU8 : Tryd.prog.cellsOf 5 = 1 := by kernel_rfl
theorem cAsc : Tryd.prog.cellsOf 83 = 256 := by kernel_rfl
set_option maxRecDepth 100000 in
theorem ascEq : (Rows.laid_strings_asciiSpace : DataW Unit) = Lib.tabData .u8 Lib.asciiSpaceTab := by
  kernel_rfl
theorem gSyn : Tryd.prog.globalNamed "strconv.ErrSyntax" = some 3 := by kernel_rfl
theorem tSyn : (Tryd.prog.globals[3]?).map (·.type) = some 72 := by kernel_rfl
theorem gRan : Tryd.prog.globalNamed "strconv.ErrRange" = some 4 := by kernel_rfl
theorem tRan : (Tryd.prog.globals[4]?).map (·.type) = some 72 := by kernel_rfl
theorem starS : ("*errors.errorString" : String) = "*" ++ "errors.errorString" := by decide
theorem rowE (u : TypeId) (h : Tryd.prog.typeName? 3 u = some "*errors.errorString") : u = 142 :=
  typeName_ptr_named (nm := "errors.errorString") (by rw [← starS]; kernel_rfl) (by kernel_rfl) (by decide) u (by rw [← starS]; exact h)
theorem cStr : Tryd.prog.cellsOf 9 = 1 := by kernel_rfl
theorem cErr : Tryd.prog.cellsOf 144 = 1 := by kernel_rfl
/-- the door's own heap meets the condition -/
theorem door_met (os : Os) (args : Array Value) : laidMetH Tryd.prog laidL ((World.laidAll Tryd.prog os laidL).forCall (fun _ _ => 0) ⟨#[], args, []⟩).memory := by
  rw [MakeChecks.laidMetH_plain _ _ _ (by kernel_rfl)]
  exact laidMet_laidAll _ (by kernel_rfl) (by kernel_rfl)
/-! what the condition gives the walks -/
theorem mark_of {W : World} (h : laidMetH Tryd.prog laidL W) : Mk W := by
  rw [MakeChecks.laidMetH_plain _ _ _ (by kernel_rfl)] at h
  have h2 := laidMet.tail (laidMet.tail h)
  have h3 := laidMet.tail h2
  have h4 := laidMet.tail h3
  have h6 := laidMet.tail (laidMet.tail h4)
  rw [tabEq] at h2
  rw [ascEq] at h6
  obtain ⟨a1, s1, hv1, _⟩ := laid_sentinel h3 gRan tRan Tryd.underlying72 rowE Tryd.underlying142 Tryd.underlying144 rfl rfl Tryd.underlying9 cErr cStr
  obtain ⟨a2, s2, hv2, _⟩ := laid_sentinel h4 gSyn tSyn Tryd.underlying72 rowE Tryd.underlying142 Tryd.underlying144 rfl rfl Tryd.underlying9 cErr cStr
  refine ⟨?_, ?_, ?_, ?_⟩
  · exact Lib.tabIs_of_head gAsc tAsc Tryd.underlying83 Tryd.underlying5 cU8 cAsc h6
  · exact Lib.tabIs_of_head gTab tTab Tryd.underlying146 Tryd.underlying89 cTab cTabs h2
  · exact ⟨_, _, by simpa using World.var?_cell gSyn hv2 0⟩
  · exact ⟨_, _, by simpa using World.var?_cell gRan hv1 0⟩
end Go.Proofs.YtbhgjjicmbbjaaaDoor
