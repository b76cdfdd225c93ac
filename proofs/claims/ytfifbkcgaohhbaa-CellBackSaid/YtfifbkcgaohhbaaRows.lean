/-
  No cell of these rows narrows 'for every input' (looked for: loops, veiled, ifaces, maps, wideKeys, modest, calm, conditions, laid).
  DERIVED. THE GIVEN ROWS OF THIS SEAT. 7 by the template 'for every input the law returns true; each argument reads behind the call as it read before'; 0 by the template 'total and deterministic' (their statements: YtfifbkcgaohhbaaTotals.lean).
  GIVEN WITH THE SEED: the statements are not yours to turn. If you find one false, say at which input.
  Laid BY PROGRAM, IN A SANDBOX (cutbox-rows.mjs): the forced cells as the released guide's own fill.sh prints them over the translation d5689589d4fbedd3… (all of the seat's roots in one cut). By AI agents, Wed Nov 11 2026. No macro, syntax, notation, axiom, sorry.
-/
import Derived.Test.YtfifbkcgaohhbaaChecked
import GoSem.Claim
import GoSem.ClaimJoined
import GoSem.ClaimMapViews
import Derived.JoinedTies
import Derived.KernelRfl
namespace Go.Proofs.Ytfifbkcgaohhbaa
/- THE CELL 'sum', in the pinned program and in every row, IS THE sha256 OF THE DUMP (.gsa) THAT YtfifbkcgaohhbaaProg.lean LOADS. Nothing in Lean hashes anything: it is a label: what it is worth is what the hold of that sum in a sandbox is worth. -/
noncomputable def Try.pinned : Pinned := { name := "ytfifbkcgaohhbaa", sum := "d5689589d4fbedd31b62f6a304ce836a74e750c92629272d94cf0a45d6189285", checked := Try.checked }
namespace Rows
def none {H : Type} : Left H := { results := [], args := [] }

/-- 'proctorlaw1.CellDivides': WHATEVER THE INPUT: true; the input reads as it did. -/
def cellDividesSpec : ChangeSpec := { name := "cellDivides", fn := fun _ => fun
  | [d1, d2] => { results := [.lit (.bool true)], args := [d1, d2] }
  | _ => none }
def cellDividesRow : OpenClaim := { program := "ytfifbkcgaohhbaa", sum := "d5689589d4fbedd31b62f6a304ce836a74e750c92629272d94cf0a45d6189285", func := "proctor/proctorlaw1.CellDivides", spec := "cellDivides", inPlace := ["math/bits.Sub64"], named := ["math/bits.divideError", "math/bits.overflowError"], apart := false }
def CellDividesSaid : Prop := cellDividesRow.holds Try.pinned (OpenSpec.ofChange cellDividesSpec)

/-- ITS FALSE NEIGHBOUR: 'it returns false'. Refute it at one input. -/
def cellDividesWrong : ChangeSpec := { name := "cellDivides", fn := fun _ => fun
  | [d1, d2] => { results := [.lit (.bool false)], args := [d1, d2] }
  | _ => none }
def CellDividesWrongFalsely : Prop := cellDividesRow.holds Try.pinned (OpenSpec.ofChange cellDividesWrong)

/-- 'proctorlaw1.CellWides': WHATEVER THE INPUT: true; the input reads as it did. -/
def cellWidesSpec : ChangeSpec := { name := "cellWides", fn := fun _ => fun
  | [d1, d2] => { results := [.lit (.bool true)], args := [d1, d2] }
  | _ => none }
def cellWidesRow : OpenClaim := { program := "ytfifbkcgaohhbaa", sum := "d5689589d4fbedd31b62f6a304ce836a74e750c92629272d94cf0a45d6189285", func := "proctor/proctorlaw1.CellWides", spec := "cellWides", inPlace := ["math/bits.Sub64"], named := ["math/bits.divideError", "math/bits.overflowError"], apart := false }
def CellWidesSaid : Prop := cellWidesRow.holds Try.pinned (OpenSpec.ofChange cellWidesSpec)

/-- ITS FALSE NEIGHBOUR: 'it returns false'. Refute it at one input. -/
def cellWidesWrong : ChangeSpec := { name := "cellWides", fn := fun _ => fun
  | [d1, d2] => { results := [.lit (.bool false)], args := [d1, d2] }
  | _ => none }
def CellWidesWrongFalsely : Prop := cellWidesRow.holds Try.pinned (OpenSpec.ofChange cellWidesWrong)

/-- 'proctorlaw1.CellShifts': WHATEVER THE INPUT: true; the input reads as it did. -/
def cellShiftsSpec : ChangeSpec := { name := "cellShifts", fn := fun _ => fun
  | [d1, d2, d3] => { results := [.lit (.bool true)], args := [d1, d2, d3] }
  | _ => none }
def cellShiftsRow : OpenClaim := { program := "ytfifbkcgaohhbaa", sum := "d5689589d4fbedd31b62f6a304ce836a74e750c92629272d94cf0a45d6189285", func := "proctor/proctorlaw1.CellShifts", spec := "cellShifts", inPlace := ["math/bits.Sub64"], named := ["math/bits.divideError", "math/bits.overflowError"], apart := false }
def CellShiftsSaid : Prop := cellShiftsRow.holds Try.pinned (OpenSpec.ofChange cellShiftsSpec)

/-- ITS FALSE NEIGHBOUR: 'it returns false'. Refute it at one input. -/
def cellShiftsWrong : ChangeSpec := { name := "cellShifts", fn := fun _ => fun
  | [d1, d2, d3] => { results := [.lit (.bool false)], args := [d1, d2, d3] }
  | _ => none }
def CellShiftsWrongFalsely : Prop := cellShiftsRow.holds Try.pinned (OpenSpec.ofChange cellShiftsWrong)

/-- 'proctorlaw1.CellBytes': WHATEVER THE INPUT: true; the input reads as it did. -/
def cellBytesSpec : ChangeSpec := { name := "cellBytes", fn := fun _ => fun
  | [d1, d2] => { results := [.lit (.bool true)], args := [d1, d2] }
  | _ => none }
def cellBytesRow : OpenClaim := { program := "ytfifbkcgaohhbaa", sum := "d5689589d4fbedd31b62f6a304ce836a74e750c92629272d94cf0a45d6189285", func := "proctor/proctorlaw1.CellBytes", spec := "cellBytes", inPlace := ["math/bits.Sub64"], named := ["math/bits.divideError", "math/bits.overflowError"], apart := false }
def CellBytesSaid : Prop := cellBytesRow.holds Try.pinned (OpenSpec.ofChange cellBytesSpec)

/-- ITS FALSE NEIGHBOUR: 'it returns false'. Refute it at one input. -/
def cellBytesWrong : ChangeSpec := { name := "cellBytes", fn := fun _ => fun
  | [d1, d2] => { results := [.lit (.bool false)], args := [d1, d2] }
  | _ => none }
def CellBytesWrongFalsely : Prop := cellBytesRow.holds Try.pinned (OpenSpec.ofChange cellBytesWrong)

/-- 'proctorlaw1.CellMoves': WHATEVER THE INPUT: true; the input reads as it did. -/
def cellMovesSpec : ChangeSpec := { name := "cellMoves", fn := fun _ => fun
  | [d1, d2, d3, d4, d5] => { results := [.lit (.bool true)], args := [d1, d2, d3, d4, d5] }
  | _ => none }
def cellMovesRow : OpenClaim := { program := "ytfifbkcgaohhbaa", sum := "d5689589d4fbedd31b62f6a304ce836a74e750c92629272d94cf0a45d6189285", func := "proctor/proctorlaw1.CellMoves", spec := "cellMoves", inPlace := ["math/bits.Sub64"], named := ["math/bits.divideError", "math/bits.overflowError"], apart := false }
def CellMovesSaid : Prop := cellMovesRow.holds Try.pinned (OpenSpec.ofChange cellMovesSpec)

/-- ITS FALSE NEIGHBOUR: 'it returns false'. Refute it at one input. -/
def cellMovesWrong : ChangeSpec := { name := "cellMoves", fn := fun _ => fun
  | [d1, d2, d3, d4, d5] => { results := [.lit (.bool false)], args := [d1, d2, d3, d4, d5] }
  | _ => none }
def CellMovesWrongFalsely : Prop := cellMovesRow.holds Try.pinned (OpenSpec.ofChange cellMovesWrong)

/-- 'proctorlaw1.CellHalves': WHATEVER THE INPUT: true; the input reads as it did. -/
def cellHalvesSpec : ChangeSpec := { name := "cellHalves", fn := fun _ => fun
  | [d1, d2, d3] => { results := [.lit (.bool true)], args := [d1, d2, d3] }
  | _ => none }
def cellHalvesRow : OpenClaim := { program := "ytfifbkcgaohhbaa", sum := "d5689589d4fbedd31b62f6a304ce836a74e750c92629272d94cf0a45d6189285", func := "proctor/proctorlaw1.CellHalves", spec := "cellHalves", inPlace := ["math/bits.Sub64"], named := ["math/bits.divideError", "math/bits.overflowError"], apart := false }
def CellHalvesSaid : Prop := cellHalvesRow.holds Try.pinned (OpenSpec.ofChange cellHalvesSpec)

/-- ITS FALSE NEIGHBOUR: 'it returns false'. Refute it at one input. -/
def cellHalvesWrong : ChangeSpec := { name := "cellHalves", fn := fun _ => fun
  | [d1, d2, d3] => { results := [.lit (.bool false)], args := [d1, d2, d3] }
  | _ => none }
def CellHalvesWrongFalsely : Prop := cellHalvesRow.holds Try.pinned (OpenSpec.ofChange cellHalvesWrong)

/-- 'proctorlaw1.CellBack': WHATEVER THE INPUT: true; the input reads as it did. -/
def cellBackSpec : ChangeSpec := { name := "cellBack", fn := fun _ => fun
  | [d1, d2, d3] => { results := [.lit (.bool true)], args := [d1, d2, d3] }
  | _ => none }
def cellBackRow : OpenClaim := { program := "ytfifbkcgaohhbaa", sum := "d5689589d4fbedd31b62f6a304ce836a74e750c92629272d94cf0a45d6189285", func := "proctor/proctorlaw1.CellBack", spec := "cellBack", inPlace := ["math/bits.Sub64"], named := ["math/bits.divideError", "math/bits.overflowError"], apart := false }
def CellBackSaid : Prop := cellBackRow.holds Try.pinned (OpenSpec.ofChange cellBackSpec)

/-- ITS FALSE NEIGHBOUR: 'it returns false'. Refute it at one input. -/
def cellBackWrong : ChangeSpec := { name := "cellBack", fn := fun _ => fun
  | [d1, d2, d3] => { results := [.lit (.bool false)], args := [d1, d2, d3] }
  | _ => none }
def CellBackWrongFalsely : Prop := cellBackRow.holds Try.pinned (OpenSpec.ofChange cellBackWrong)

/- THE SECOND FORM. 'bulk': how many values and letters a reading holds, each counted each time it is reached (what is shared counts as often as it is met; a slice's spare places count too). A statement '..UptoSaid' is the law's where the arguments, and the package variables that the reading takes, are together of bulk at most 1048576: NARROWER than '..Said'. Prove '..Said' where nothing that the law and all that it calls make is longer than what came in: it says more and counts as full. Else prove '..UptoSaid'. A law counts once. -/
mutual
def uptoBulk {H : Type} : DataW H → Nat
  | .lit (.string bytes) => bytes.length + 1
  | .lit _ => 1
  | .nil => 1
  | .ptr d => uptoBulk d + 1
  | .slice elems spare => uptoBulkAll elems + uptoBulkAll spare + 1
  | .agg parts => uptoBulkAll parts + 1
  | .iface _ d => uptoBulk d + 1
  | .map entries => uptoBulkEntries entries + 1
  | .held _ => 1
def uptoBulkAll {H : Type} : List (DataW H) → Nat
  | [] => 0
  | d :: r => uptoBulk d + uptoBulkAll r
def uptoBulkEntries {H : Type} : List (Lit × DataW H) → Nat
  | [] => 0
  | x :: r => uptoBulkEntry x + uptoBulkEntries r
def uptoBulkEntry {H : Type} : Lit × DataW H → Nat
  | (.string bytes, d) => bytes.length + uptoBulk d + 1
  | (_, d) => uptoBulk d + 1
 end
def uptoSmall : (H : Type) → List (DataW H) → Bool := fun _ ds => decide (uptoBulkAll ds ≤ 1048576)
def OpenSpec.upto (s : _root_.Go.ChangeSpec) : _root_.Go.OpenSpec := { _root_.Go.OpenSpec.ofChange s with cond := some uptoSmall }

/-- 'proctorlaw1.CellDivides', WHERE WHAT IT READS IS OF BULK AT MOST 1048576: true; the input reads as it did. -/
def cellDividesUptoRow : OpenClaim := { program := "ytfifbkcgaohhbaa", sum := "d5689589d4fbedd31b62f6a304ce836a74e750c92629272d94cf0a45d6189285", func := "proctor/proctorlaw1.CellDivides", spec := "cellDivides", inPlace := ["math/bits.Sub64"], named := ["math/bits.divideError", "math/bits.overflowError"], apart := false, narrowed := true }
def CellDividesUptoSaid : Prop := cellDividesUptoRow.holds Try.pinned (OpenSpec.upto cellDividesSpec)

/-- 'proctorlaw1.CellWides', WHERE WHAT IT READS IS OF BULK AT MOST 1048576: true; the input reads as it did. -/
def cellWidesUptoRow : OpenClaim := { program := "ytfifbkcgaohhbaa", sum := "d5689589d4fbedd31b62f6a304ce836a74e750c92629272d94cf0a45d6189285", func := "proctor/proctorlaw1.CellWides", spec := "cellWides", inPlace := ["math/bits.Sub64"], named := ["math/bits.divideError", "math/bits.overflowError"], apart := false, narrowed := true }
def CellWidesUptoSaid : Prop := cellWidesUptoRow.holds Try.pinned (OpenSpec.upto cellWidesSpec)

/-- 'proctorlaw1.CellShifts', WHERE WHAT IT READS IS OF BULK AT MOST 1048576: true; the input reads as it did. -/
def cellShiftsUptoRow : OpenClaim := { program := "ytfifbkcgaohhbaa", sum := "d5689589d4fbedd31b62f6a304ce836a74e750c92629272d94cf0a45d6189285", func := "proctor/proctorlaw1.CellShifts", spec := "cellShifts", inPlace := ["math/bits.Sub64"], named := ["math/bits.divideError", "math/bits.overflowError"], apart := false, narrowed := true }
def CellShiftsUptoSaid : Prop := cellShiftsUptoRow.holds Try.pinned (OpenSpec.upto cellShiftsSpec)

/-- 'proctorlaw1.CellBytes', WHERE WHAT IT READS IS OF BULK AT MOST 1048576: true; the input reads as it did. -/
def cellBytesUptoRow : OpenClaim := { program := "ytfifbkcgaohhbaa", sum := "d5689589d4fbedd31b62f6a304ce836a74e750c92629272d94cf0a45d6189285", func := "proctor/proctorlaw1.CellBytes", spec := "cellBytes", inPlace := ["math/bits.Sub64"], named := ["math/bits.divideError", "math/bits.overflowError"], apart := false, narrowed := true }
def CellBytesUptoSaid : Prop := cellBytesUptoRow.holds Try.pinned (OpenSpec.upto cellBytesSpec)

/-- 'proctorlaw1.CellMoves', WHERE WHAT IT READS IS OF BULK AT MOST 1048576: true; the input reads as it did. -/
def cellMovesUptoRow : OpenClaim := { program := "ytfifbkcgaohhbaa", sum := "d5689589d4fbedd31b62f6a304ce836a74e750c92629272d94cf0a45d6189285", func := "proctor/proctorlaw1.CellMoves", spec := "cellMoves", inPlace := ["math/bits.Sub64"], named := ["math/bits.divideError", "math/bits.overflowError"], apart := false, narrowed := true }
def CellMovesUptoSaid : Prop := cellMovesUptoRow.holds Try.pinned (OpenSpec.upto cellMovesSpec)

/-- 'proctorlaw1.CellHalves', WHERE WHAT IT READS IS OF BULK AT MOST 1048576: true; the input reads as it did. -/
def cellHalvesUptoRow : OpenClaim := { program := "ytfifbkcgaohhbaa", sum := "d5689589d4fbedd31b62f6a304ce836a74e750c92629272d94cf0a45d6189285", func := "proctor/proctorlaw1.CellHalves", spec := "cellHalves", inPlace := ["math/bits.Sub64"], named := ["math/bits.divideError", "math/bits.overflowError"], apart := false, narrowed := true }
def CellHalvesUptoSaid : Prop := cellHalvesUptoRow.holds Try.pinned (OpenSpec.upto cellHalvesSpec)

/-- 'proctorlaw1.CellBack', WHERE WHAT IT READS IS OF BULK AT MOST 1048576: true; the input reads as it did. -/
def cellBackUptoRow : OpenClaim := { program := "ytfifbkcgaohhbaa", sum := "d5689589d4fbedd31b62f6a304ce836a74e750c92629272d94cf0a45d6189285", func := "proctor/proctorlaw1.CellBack", spec := "cellBack", inPlace := ["math/bits.Sub64"], named := ["math/bits.divideError", "math/bits.overflowError"], apart := false, narrowed := true }
def CellBackUptoSaid : Prop := cellBackUptoRow.holds Try.pinned (OpenSpec.upto cellBackSpec)

end Rows
end Go.Proofs.Ytfifbkcgaohhbaa
