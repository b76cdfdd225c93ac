/-
  NARROWER THAN 'FOR EVERY INPUT', by the rows' own cells (each row's printed sentence says how): PlaneCloses: laid · PlaneDraws: laid · PlaneMany: laid · PlanePlays: laid · PlaneAreas: laid · PlaneMoves: laid · PlaneSame: laid · PlaneTurtles: laid.
  DERIVED. THE GIVEN ROWS OF THIS SEAT. 8 by the template 'for every input the law returns true; each argument reads behind the call as it read before'; 0 by the template 'total and deterministic' (their statements: YtndgcndmkfjdgaaDoorTotals.lean).
  GIVEN WITH THE SEED: the statements are not yours to turn. If you find one false, say at which input.
  Laid BY PROGRAM, IN A SANDBOX (cutbox-rows.mjs): the forced cells as the released guide's own fill.sh prints them over the translation 8ef6d80c7b9fc5e5… (all of the seat's roots in one cut). By AI agents, Wed Nov 11 2026. No macro, syntax, notation, axiom, sorry.
-/
import Derived.Test.YtndgcndmkfjdgaaDoorChecked
import GoSem.PinnedTables
import GoSem.Claim
import GoSem.ClaimJoined
import GoSem.ClaimMapViews
import Derived.JoinedTies
import Derived.KernelRfl
namespace Go.Proofs.YtndgcndmkfjdgaaDoor
/- THE CELL 'sum', in the pinned program and in every row, IS THE sha256 OF THE DUMP (.gsa) THAT YtndgcndmkfjdgaaDoorProg.lean LOADS. Nothing in Lean hashes anything: it is a label: what it is worth is what the hold of that sum in a sandbox is worth. -/
noncomputable def Tryd.pinned : Pinned := { name := "ytndgcndmkfjdgaadoor", sum := "8ef6d80c7b9fc5e5c6083c54a925d125d1fb6eae7edfa121fef2d9b494e7559d", checked := Tryd.checked }
namespace Rows
def none {H : Type} : Left H := { results := [], args := [] }

/- WHAT THE LISTED PACKAGE-LEVEL VARIABLES READ AS WHEN THE CALL BEGINS. Each datum BY PROGRAM (the guide's laid-datum.mjs) off the statement by which the dump's own 'gosem.cut.vars' lays the variable. In a bare row this is a premise. The card (YtndgcndmkfjdgaaDoorCards.lean) ties it to the program's text. -/
def laid_unicode_utf8_acceptRanges {H : Type} : DataW H := .agg [.agg [.lit (.int .u8 128), .lit (.int .u8 191)], .agg [.lit (.int .u8 160), .lit (.int .u8 191)], .agg [.lit (.int .u8 128), .lit (.int .u8 159)], .agg [.lit (.int .u8 144), .lit (.int .u8 191)], .agg [.lit (.int .u8 128), .lit (.int .u8 143)], .agg [.lit (.int .u8 0), .lit (.int .u8 0)], .agg [.lit (.int .u8 0), .lit (.int .u8 0)], .agg [.lit (.int .u8 0), .lit (.int .u8 0)], .agg [.lit (.int .u8 0), .lit (.int .u8 0)], .agg [.lit (.int .u8 0), .lit (.int .u8 0)], .agg [.lit (.int .u8 0), .lit (.int .u8 0)], .agg [.lit (.int .u8 0), .lit (.int .u8 0)], .agg [.lit (.int .u8 0), .lit (.int .u8 0)], .agg [.lit (.int .u8 0), .lit (.int .u8 0)], .agg [.lit (.int .u8 0), .lit (.int .u8 0)], .agg [.lit (.int .u8 0), .lit (.int .u8 0)]]
/-- One of Go's own tables, pinned by name: the form's constant. -/
def laid_unicode_utf8_first : DataW Unit := Go.Pinned.utf8First

/-- 'proctorlaw10.PlaneCloses': WHATEVER THE INPUT: true; the input reads as it did. -/
def planeClosesSpec : ChangeSpec := { name := "planeCloses", fn := fun _ => fun
  | [d] => { results := [.lit (.bool true)], args := [d] }
  | _ => none }
def planeClosesRow : OpenClaim := { program := "ytndgcndmkfjdgaadoor", sum := "8ef6d80c7b9fc5e5c6083c54a925d125d1fb6eae7edfa121fef2d9b494e7559d", func := "proctor/proctorlaw10.PlaneCloses", spec := "planeCloses", inPlace := ["math.archTrunc", "math.Float64bits", "math.Float64frombits", "internal/reflectlite.TypeOf", "internal/bytealg.IndexByteString", "internal/bytealg.IndexString", "internal/abi.NoEscape"], unfollowed := true, recurses := true, named := ["unicode/utf8.first", "unicode/utf8.acceptRanges", "internal/bytealg.MaxLen"], apart := false, laid := [("unicode/utf8.acceptRanges", laid_unicode_utf8_acceptRanges), ("unicode/utf8.first", laid_unicode_utf8_first)] }
def PlaneClosesSaid : Prop := planeClosesRow.holds Tryd.pinned (OpenSpec.ofChange planeClosesSpec)

/-- ITS FALSE NEIGHBOUR: 'it returns false'. Refute it at one input. -/
def planeClosesWrong : ChangeSpec := { name := "planeCloses", fn := fun _ => fun
  | [d] => { results := [.lit (.bool false)], args := [d] }
  | _ => none }
def PlaneClosesWrongFalsely : Prop := planeClosesRow.holds Tryd.pinned (OpenSpec.ofChange planeClosesWrong)

/-- 'proctorlaw10.PlaneDraws': WHATEVER THE INPUT: true; the input reads as it did. -/
def planeDrawsSpec : ChangeSpec := { name := "planeDraws", fn := fun _ => fun
  | [d] => { results := [.lit (.bool true)], args := [d] }
  | _ => none }
def planeDrawsRow : OpenClaim := { program := "ytndgcndmkfjdgaadoor", sum := "8ef6d80c7b9fc5e5c6083c54a925d125d1fb6eae7edfa121fef2d9b494e7559d", func := "proctor/proctorlaw10.PlaneDraws", spec := "planeDraws", inPlace := ["math.archTrunc", "math.Float64bits", "math.Float64frombits", "internal/reflectlite.TypeOf", "internal/bytealg.IndexByteString", "internal/bytealg.IndexString", "internal/abi.NoEscape"], unfollowed := true, recurses := true, named := ["unicode/utf8.first", "unicode/utf8.acceptRanges", "internal/bytealg.MaxLen"], apart := false, laid := [("unicode/utf8.acceptRanges", laid_unicode_utf8_acceptRanges), ("unicode/utf8.first", laid_unicode_utf8_first)] }
def PlaneDrawsSaid : Prop := planeDrawsRow.holds Tryd.pinned (OpenSpec.ofChange planeDrawsSpec)

/-- ITS FALSE NEIGHBOUR: 'it returns false'. Refute it at one input. -/
def planeDrawsWrong : ChangeSpec := { name := "planeDraws", fn := fun _ => fun
  | [d] => { results := [.lit (.bool false)], args := [d] }
  | _ => none }
def PlaneDrawsWrongFalsely : Prop := planeDrawsRow.holds Tryd.pinned (OpenSpec.ofChange planeDrawsWrong)

/-- 'proctorlaw10.PlaneMany': WHATEVER THE INPUT: true; the input reads as it did. -/
def planeManySpec : ChangeSpec := { name := "planeMany", fn := fun _ => fun
  | [d1, d2] => { results := [.lit (.bool true)], args := [d1, d2] }
  | _ => none }
def planeManyRow : OpenClaim := { program := "ytndgcndmkfjdgaadoor", sum := "8ef6d80c7b9fc5e5c6083c54a925d125d1fb6eae7edfa121fef2d9b494e7559d", func := "proctor/proctorlaw10.PlaneMany", spec := "planeMany", inPlace := ["math.archTrunc", "math.Float64bits", "math.Float64frombits", "internal/reflectlite.TypeOf", "internal/bytealg.IndexByteString", "internal/bytealg.IndexString", "internal/abi.NoEscape"], unfollowed := true, recurses := true, named := ["unicode/utf8.first", "unicode/utf8.acceptRanges", "internal/bytealg.MaxLen"], apart := false, laid := [("unicode/utf8.acceptRanges", laid_unicode_utf8_acceptRanges), ("unicode/utf8.first", laid_unicode_utf8_first)] }
def PlaneManySaid : Prop := planeManyRow.holds Tryd.pinned (OpenSpec.ofChange planeManySpec)

/-- ITS FALSE NEIGHBOUR: 'it returns false'. Refute it at one input. -/
def planeManyWrong : ChangeSpec := { name := "planeMany", fn := fun _ => fun
  | [d1, d2] => { results := [.lit (.bool false)], args := [d1, d2] }
  | _ => none }
def PlaneManyWrongFalsely : Prop := planeManyRow.holds Tryd.pinned (OpenSpec.ofChange planeManyWrong)

/-- 'proctorlaw10.PlanePlays': WHATEVER THE INPUT: true; the input reads as it did. -/
def planePlaysSpec : ChangeSpec := { name := "planePlays", fn := fun _ => fun
  | [d] => { results := [.lit (.bool true)], args := [d] }
  | _ => none }
def planePlaysRow : OpenClaim := { program := "ytndgcndmkfjdgaadoor", sum := "8ef6d80c7b9fc5e5c6083c54a925d125d1fb6eae7edfa121fef2d9b494e7559d", func := "proctor/proctorlaw10.PlanePlays", spec := "planePlays", inPlace := ["math.archTrunc", "math.Float64bits", "math.Float64frombits", "internal/reflectlite.TypeOf", "internal/bytealg.IndexByteString", "internal/bytealg.IndexString", "internal/abi.NoEscape"], unfollowed := true, recurses := true, named := ["unicode/utf8.first", "unicode/utf8.acceptRanges", "internal/bytealg.MaxLen"], apart := false, laid := [("unicode/utf8.acceptRanges", laid_unicode_utf8_acceptRanges), ("unicode/utf8.first", laid_unicode_utf8_first)] }
def PlanePlaysSaid : Prop := planePlaysRow.holds Tryd.pinned (OpenSpec.ofChange planePlaysSpec)

/-- ITS FALSE NEIGHBOUR: 'it returns false'. Refute it at one input. -/
def planePlaysWrong : ChangeSpec := { name := "planePlays", fn := fun _ => fun
  | [d] => { results := [.lit (.bool false)], args := [d] }
  | _ => none }
def PlanePlaysWrongFalsely : Prop := planePlaysRow.holds Tryd.pinned (OpenSpec.ofChange planePlaysWrong)

/-- 'proctorlaw10.PlaneAreas': WHATEVER THE INPUT: true; the input reads as it did. -/
def planeAreasSpec : ChangeSpec := { name := "planeAreas", fn := fun _ => fun
  | [d1, d2, d3, d4, d5] => { results := [.lit (.bool true)], args := [d1, d2, d3, d4, d5] }
  | _ => none }
def planeAreasRow : OpenClaim := { program := "ytndgcndmkfjdgaadoor", sum := "8ef6d80c7b9fc5e5c6083c54a925d125d1fb6eae7edfa121fef2d9b494e7559d", func := "proctor/proctorlaw10.PlaneAreas", spec := "planeAreas", inPlace := ["math.archTrunc", "math.Float64bits", "math.Float64frombits", "internal/reflectlite.TypeOf", "internal/bytealg.IndexByteString", "internal/bytealg.IndexString", "internal/abi.NoEscape"], unfollowed := true, recurses := true, named := ["unicode/utf8.first", "unicode/utf8.acceptRanges", "internal/bytealg.MaxLen"], apart := false, laid := [("unicode/utf8.acceptRanges", laid_unicode_utf8_acceptRanges), ("unicode/utf8.first", laid_unicode_utf8_first)] }
def PlaneAreasSaid : Prop := planeAreasRow.holds Tryd.pinned (OpenSpec.ofChange planeAreasSpec)

/-- ITS FALSE NEIGHBOUR: 'it returns false'. Refute it at one input. -/
def planeAreasWrong : ChangeSpec := { name := "planeAreas", fn := fun _ => fun
  | [d1, d2, d3, d4, d5] => { results := [.lit (.bool false)], args := [d1, d2, d3, d4, d5] }
  | _ => none }
def PlaneAreasWrongFalsely : Prop := planeAreasRow.holds Tryd.pinned (OpenSpec.ofChange planeAreasWrong)

/-- 'proctorlaw10.PlaneMoves': WHATEVER THE INPUT: true; the input reads as it did. -/
def planeMovesSpec : ChangeSpec := { name := "planeMoves", fn := fun _ => fun
  | [d1, d2, d3, d4] => { results := [.lit (.bool true)], args := [d1, d2, d3, d4] }
  | _ => none }
def planeMovesRow : OpenClaim := { program := "ytndgcndmkfjdgaadoor", sum := "8ef6d80c7b9fc5e5c6083c54a925d125d1fb6eae7edfa121fef2d9b494e7559d", func := "proctor/proctorlaw10.PlaneMoves", spec := "planeMoves", inPlace := ["math.archTrunc", "math.Float64bits", "math.Float64frombits", "internal/reflectlite.TypeOf", "internal/bytealg.IndexByteString", "internal/bytealg.IndexString", "internal/abi.NoEscape"], unfollowed := true, recurses := true, named := ["unicode/utf8.first", "unicode/utf8.acceptRanges", "internal/bytealg.MaxLen"], apart := false, laid := [("unicode/utf8.acceptRanges", laid_unicode_utf8_acceptRanges), ("unicode/utf8.first", laid_unicode_utf8_first)] }
def PlaneMovesSaid : Prop := planeMovesRow.holds Tryd.pinned (OpenSpec.ofChange planeMovesSpec)

/-- ITS FALSE NEIGHBOUR: 'it returns false'. Refute it at one input. -/
def planeMovesWrong : ChangeSpec := { name := "planeMoves", fn := fun _ => fun
  | [d1, d2, d3, d4] => { results := [.lit (.bool false)], args := [d1, d2, d3, d4] }
  | _ => none }
def PlaneMovesWrongFalsely : Prop := planeMovesRow.holds Tryd.pinned (OpenSpec.ofChange planeMovesWrong)

/-- 'proctorlaw10.PlaneSame': WHATEVER THE INPUT: true; the input reads as it did. -/
def planeSameSpec : ChangeSpec := { name := "planeSame", fn := fun _ => fun
  | [d1, d2] => { results := [.lit (.bool true)], args := [d1, d2] }
  | _ => none }
def planeSameRow : OpenClaim := { program := "ytndgcndmkfjdgaadoor", sum := "8ef6d80c7b9fc5e5c6083c54a925d125d1fb6eae7edfa121fef2d9b494e7559d", func := "proctor/proctorlaw10.PlaneSame", spec := "planeSame", inPlace := ["math.archTrunc", "math.Float64bits", "math.Float64frombits", "internal/reflectlite.TypeOf", "internal/bytealg.IndexByteString", "internal/bytealg.IndexString", "internal/abi.NoEscape"], unfollowed := true, recurses := true, named := ["unicode/utf8.first", "unicode/utf8.acceptRanges", "internal/bytealg.MaxLen"], apart := false, laid := [("unicode/utf8.acceptRanges", laid_unicode_utf8_acceptRanges), ("unicode/utf8.first", laid_unicode_utf8_first)] }
def PlaneSameSaid : Prop := planeSameRow.holds Tryd.pinned (OpenSpec.ofChange planeSameSpec)

/-- ITS FALSE NEIGHBOUR: 'it returns false'. Refute it at one input. -/
def planeSameWrong : ChangeSpec := { name := "planeSame", fn := fun _ => fun
  | [d1, d2] => { results := [.lit (.bool false)], args := [d1, d2] }
  | _ => none }
def PlaneSameWrongFalsely : Prop := planeSameRow.holds Tryd.pinned (OpenSpec.ofChange planeSameWrong)

/-- 'proctorlaw10.PlaneTurtles': WHATEVER THE INPUT: true; the input reads as it did. -/
def planeTurtlesSpec : ChangeSpec := { name := "planeTurtles", fn := fun _ => fun
  | [d1, d2, d3, d4] => { results := [.lit (.bool true)], args := [d1, d2, d3, d4] }
  | _ => none }
def planeTurtlesRow : OpenClaim := { program := "ytndgcndmkfjdgaadoor", sum := "8ef6d80c7b9fc5e5c6083c54a925d125d1fb6eae7edfa121fef2d9b494e7559d", func := "proctor/proctorlaw10.PlaneTurtles", spec := "planeTurtles", inPlace := ["math.archTrunc", "math.Float64bits", "math.Float64frombits", "internal/reflectlite.TypeOf", "internal/bytealg.IndexByteString", "internal/bytealg.IndexString", "internal/abi.NoEscape"], unfollowed := true, recurses := true, named := ["unicode/utf8.first", "unicode/utf8.acceptRanges", "internal/bytealg.MaxLen"], apart := false, laid := [("unicode/utf8.acceptRanges", laid_unicode_utf8_acceptRanges), ("unicode/utf8.first", laid_unicode_utf8_first)] }
def PlaneTurtlesSaid : Prop := planeTurtlesRow.holds Tryd.pinned (OpenSpec.ofChange planeTurtlesSpec)

/-- ITS FALSE NEIGHBOUR: 'it returns false'. Refute it at one input. -/
def planeTurtlesWrong : ChangeSpec := { name := "planeTurtles", fn := fun _ => fun
  | [d1, d2, d3, d4] => { results := [.lit (.bool false)], args := [d1, d2, d3, d4] }
  | _ => none }
def PlaneTurtlesWrongFalsely : Prop := planeTurtlesRow.holds Tryd.pinned (OpenSpec.ofChange planeTurtlesWrong)

/- THE SECOND FORM. 'bulk': how many values and letters a reading holds, each counted each time it is reached (what is shared counts as often as it is met; a slice's spare places count too). A statement '..UptoSaid' is the law's where the arguments, and the package variables that the reading takes, are together of bulk at most 1048576: NARROWER than '..Said'. Prove '..Said' where nothing that the law and all that it calls make is longer than what came in: it says more and counts as full. Else prove '..UptoSaid'. A law counts once. -/
mutual
def uptoBulk {H : Type} : DataW H → Nat
  | .lit (.string bytes) => bytes.length + 1
  | .lit _ => 1
  | .nil => 1
  | .ptr d => uptoBulk d + 1
  | .slice elems spare => uptoBulkAll elems + uptoBulkAll spare + 1
  | .agg parts => uptoBulkAll parts + 1
  | .iface _ d => uptoBulk d + 1
  | .map entries => uptoBulkEntries entries + 1
  | .held _ => 1
def uptoBulkAll {H : Type} : List (DataW H) → Nat
  | [] => 0
  | d :: r => uptoBulk d + uptoBulkAll r
def uptoBulkEntries {H : Type} : List (Lit × DataW H) → Nat
  | [] => 0
  | x :: r => uptoBulkEntry x + uptoBulkEntries r
def uptoBulkEntry {H : Type} : Lit × DataW H → Nat
  | (.string bytes, d) => bytes.length + uptoBulk d + 1
  | (_, d) => uptoBulk d + 1
 end
def uptoSmall : (H : Type) → List (DataW H) → Bool := fun _ ds => decide (uptoBulkAll ds ≤ 1048576)
def OpenSpec.upto (s : _root_.Go.ChangeSpec) : _root_.Go.OpenSpec := { _root_.Go.OpenSpec.ofChange s with cond := some uptoSmall }

/-- 'proctorlaw10.PlaneCloses', WHERE WHAT IT READS IS OF BULK AT MOST 1048576: true; the input reads as it did. -/
def planeClosesUptoRow : OpenClaim := { program := "ytndgcndmkfjdgaadoor", sum := "8ef6d80c7b9fc5e5c6083c54a925d125d1fb6eae7edfa121fef2d9b494e7559d", func := "proctor/proctorlaw10.PlaneCloses", spec := "planeCloses", inPlace := ["math.archTrunc", "math.Float64bits", "math.Float64frombits", "internal/reflectlite.TypeOf", "internal/bytealg.IndexByteString", "internal/bytealg.IndexString", "internal/abi.NoEscape"], unfollowed := true, recurses := true, named := ["unicode/utf8.first", "unicode/utf8.acceptRanges", "internal/bytealg.MaxLen"], apart := false, laid := [("unicode/utf8.acceptRanges", laid_unicode_utf8_acceptRanges), ("unicode/utf8.first", laid_unicode_utf8_first)], narrowed := true }
def PlaneClosesUptoSaid : Prop := planeClosesUptoRow.holds Tryd.pinned (OpenSpec.upto planeClosesSpec)

/-- 'proctorlaw10.PlaneDraws', WHERE WHAT IT READS IS OF BULK AT MOST 1048576: true; the input reads as it did. -/
def planeDrawsUptoRow : OpenClaim := { program := "ytndgcndmkfjdgaadoor", sum := "8ef6d80c7b9fc5e5c6083c54a925d125d1fb6eae7edfa121fef2d9b494e7559d", func := "proctor/proctorlaw10.PlaneDraws", spec := "planeDraws", inPlace := ["math.archTrunc", "math.Float64bits", "math.Float64frombits", "internal/reflectlite.TypeOf", "internal/bytealg.IndexByteString", "internal/bytealg.IndexString", "internal/abi.NoEscape"], unfollowed := true, recurses := true, named := ["unicode/utf8.first", "unicode/utf8.acceptRanges", "internal/bytealg.MaxLen"], apart := false, laid := [("unicode/utf8.acceptRanges", laid_unicode_utf8_acceptRanges), ("unicode/utf8.first", laid_unicode_utf8_first)], narrowed := true }
def PlaneDrawsUptoSaid : Prop := planeDrawsUptoRow.holds Tryd.pinned (OpenSpec.upto planeDrawsSpec)

/-- 'proctorlaw10.PlaneMany', WHERE WHAT IT READS IS OF BULK AT MOST 1048576: true; the input reads as it did. -/
def planeManyUptoRow : OpenClaim := { program := "ytndgcndmkfjdgaadoor", sum := "8ef6d80c7b9fc5e5c6083c54a925d125d1fb6eae7edfa121fef2d9b494e7559d", func := "proctor/proctorlaw10.PlaneMany", spec := "planeMany", inPlace := ["math.archTrunc", "math.Float64bits", "math.Float64frombits", "internal/reflectlite.TypeOf", "internal/bytealg.IndexByteString", "internal/bytealg.IndexString", "internal/abi.NoEscape"], unfollowed := true, recurses := true, named := ["unicode/utf8.first", "unicode/utf8.acceptRanges", "internal/bytealg.MaxLen"], apart := false, laid := [("unicode/utf8.acceptRanges", laid_unicode_utf8_acceptRanges), ("unicode/utf8.first", laid_unicode_utf8_first)], narrowed := true }
def PlaneManyUptoSaid : Prop := planeManyUptoRow.holds Tryd.pinned (OpenSpec.upto planeManySpec)

/-- 'proctorlaw10.PlanePlays', WHERE WHAT IT READS IS OF BULK AT MOST 1048576: true; the input reads as it did. -/
def planePlaysUptoRow : OpenClaim := { program := "ytndgcndmkfjdgaadoor", sum := "8ef6d80c7b9fc5e5c6083c54a925d125d1fb6eae7edfa121fef2d9b494e7559d", func := "proctor/proctorlaw10.PlanePlays", spec := "planePlays", inPlace := ["math.archTrunc", "math.Float64bits", "math.Float64frombits", "internal/reflectlite.TypeOf", "internal/bytealg.IndexByteString", "internal/bytealg.IndexString", "internal/abi.NoEscape"], unfollowed := true, recurses := true, named := ["unicode/utf8.first", "unicode/utf8.acceptRanges", "internal/bytealg.MaxLen"], apart := false, laid := [("unicode/utf8.acceptRanges", laid_unicode_utf8_acceptRanges), ("unicode/utf8.first", laid_unicode_utf8_first)], narrowed := true }
def PlanePlaysUptoSaid : Prop := planePlaysUptoRow.holds Tryd.pinned (OpenSpec.upto planePlaysSpec)

/-- 'proctorlaw10.PlaneAreas', WHERE WHAT IT READS IS OF BULK AT MOST 1048576: true; the input reads as it did. -/
def planeAreasUptoRow : OpenClaim := { program := "ytndgcndmkfjdgaadoor", sum := "8ef6d80c7b9fc5e5c6083c54a925d125d1fb6eae7edfa121fef2d9b494e7559d", func := "proctor/proctorlaw10.PlaneAreas", spec := "planeAreas", inPlace := ["math.archTrunc", "math.Float64bits", "math.Float64frombits", "internal/reflectlite.TypeOf", "internal/bytealg.IndexByteString", "internal/bytealg.IndexString", "internal/abi.NoEscape"], unfollowed := true, recurses := true, named := ["unicode/utf8.first", "unicode/utf8.acceptRanges", "internal/bytealg.MaxLen"], apart := false, laid := [("unicode/utf8.acceptRanges", laid_unicode_utf8_acceptRanges), ("unicode/utf8.first", laid_unicode_utf8_first)], narrowed := true }
def PlaneAreasUptoSaid : Prop := planeAreasUptoRow.holds Tryd.pinned (OpenSpec.upto planeAreasSpec)

/-- 'proctorlaw10.PlaneMoves', WHERE WHAT IT READS IS OF BULK AT MOST 1048576: true; the input reads as it did. -/
def planeMovesUptoRow : OpenClaim := { program := "ytndgcndmkfjdgaadoor", sum := "8ef6d80c7b9fc5e5c6083c54a925d125d1fb6eae7edfa121fef2d9b494e7559d", func := "proctor/proctorlaw10.PlaneMoves", spec := "planeMoves", inPlace := ["math.archTrunc", "math.Float64bits", "math.Float64frombits", "internal/reflectlite.TypeOf", "internal/bytealg.IndexByteString", "internal/bytealg.IndexString", "internal/abi.NoEscape"], unfollowed := true, recurses := true, named := ["unicode/utf8.first", "unicode/utf8.acceptRanges", "internal/bytealg.MaxLen"], apart := false, laid := [("unicode/utf8.acceptRanges", laid_unicode_utf8_acceptRanges), ("unicode/utf8.first", laid_unicode_utf8_first)], narrowed := true }
def PlaneMovesUptoSaid : Prop := planeMovesUptoRow.holds Tryd.pinned (OpenSpec.upto planeMovesSpec)

/-- 'proctorlaw10.PlaneSame', WHERE WHAT IT READS IS OF BULK AT MOST 1048576: true; the input reads as it did. -/
def planeSameUptoRow : OpenClaim := { program := "ytndgcndmkfjdgaadoor", sum := "8ef6d80c7b9fc5e5c6083c54a925d125d1fb6eae7edfa121fef2d9b494e7559d", func := "proctor/proctorlaw10.PlaneSame", spec := "planeSame", inPlace := ["math.archTrunc", "math.Float64bits", "math.Float64frombits", "internal/reflectlite.TypeOf", "internal/bytealg.IndexByteString", "internal/bytealg.IndexString", "internal/abi.NoEscape"], unfollowed := true, recurses := true, named := ["unicode/utf8.first", "unicode/utf8.acceptRanges", "internal/bytealg.MaxLen"], apart := false, laid := [("unicode/utf8.acceptRanges", laid_unicode_utf8_acceptRanges), ("unicode/utf8.first", laid_unicode_utf8_first)], narrowed := true }
def PlaneSameUptoSaid : Prop := planeSameUptoRow.holds Tryd.pinned (OpenSpec.upto planeSameSpec)

/-- 'proctorlaw10.PlaneTurtles', WHERE WHAT IT READS IS OF BULK AT MOST 1048576: true; the input reads as it did. -/
def planeTurtlesUptoRow : OpenClaim := { program := "ytndgcndmkfjdgaadoor", sum := "8ef6d80c7b9fc5e5c6083c54a925d125d1fb6eae7edfa121fef2d9b494e7559d", func := "proctor/proctorlaw10.PlaneTurtles", spec := "planeTurtles", inPlace := ["math.archTrunc", "math.Float64bits", "math.Float64frombits", "internal/reflectlite.TypeOf", "internal/bytealg.IndexByteString", "internal/bytealg.IndexString", "internal/abi.NoEscape"], unfollowed := true, recurses := true, named := ["unicode/utf8.first", "unicode/utf8.acceptRanges", "internal/bytealg.MaxLen"], apart := false, laid := [("unicode/utf8.acceptRanges", laid_unicode_utf8_acceptRanges), ("unicode/utf8.first", laid_unicode_utf8_first)], narrowed := true }
def PlaneTurtlesUptoSaid : Prop := planeTurtlesUptoRow.holds Tryd.pinned (OpenSpec.upto planeTurtlesSpec)

end Rows
end Go.Proofs.YtndgcndmkfjdgaaDoor
