/-
  No cell of these rows narrows 'for every input' (looked for: loops, veiled, ifaces, maps, wideKeys, modest, calm, conditions, laid).
  DERIVED. THE GIVEN ROWS OF THIS SEAT. 7 by the template 'for every input the law returns true; each argument reads behind the call as it read before'; 0 by the template 'total and deterministic' (their statements: YteldbkdfphkdbaaTotals.lean).
  GIVEN WITH THE SEED: the statements are not yours to turn. If you find one false, say at which input.
  Laid BY PROGRAM, IN A SANDBOX (cutbox-rows.mjs): the forced cells as the released guide's own fill.sh prints them over the translation 2fcfc09e06999af5… (all of the seat's roots in one cut). By AI agents, Wed Nov 11 2026. No macro, syntax, notation, axiom, sorry.
-/
import Derived.Test.YteldbkdfphkdbaaChecked
import GoSem.Claim
import GoSem.ClaimJoined
import GoSem.ClaimMapViews
import Derived.JoinedTies
import Derived.KernelRfl
namespace Go.Proofs.Yteldbkdfphkdbaa
/- THE CELL 'sum', in the pinned program and in every row, IS THE sha256 OF THE DUMP (.gsa) THAT YteldbkdfphkdbaaProg.lean LOADS. Nothing in Lean hashes anything: it is a label: what it is worth is what the hold of that sum in a sandbox is worth. -/
noncomputable def Try.pinned : Pinned := { name := "yteldbkdfphkdbaa", sum := "2fcfc09e06999af52a359c6fabaf4c5ec76b8c19fb965c4d2d4764b37cabbee7", checked := Try.checked }
namespace Rows
def none {H : Type} : Left H := { results := [], args := [] }

/-- 'proctorlaw3.ImageMakes': WHATEVER THE INPUT: true; the input reads as it did. -/
def imageMakesSpec : ChangeSpec := { name := "imageMakes", fn := fun _ => fun
  | [d1, d2, d3, d4] => { results := [.lit (.bool true)], args := [d1, d2, d3, d4] }
  | _ => none }
def imageMakesRow : OpenClaim := { program := "yteldbkdfphkdbaa", sum := "2fcfc09e06999af52a359c6fabaf4c5ec76b8c19fb965c4d2d4764b37cabbee7", func := "proctor/proctorlaw3.ImageMakes", spec := "imageMakes", apart := false }
def ImageMakesSaid : Prop := imageMakesRow.holds Try.pinned (OpenSpec.ofChange imageMakesSpec)

/-- ITS FALSE NEIGHBOUR: 'it returns false'. Refute it at one input. -/
def imageMakesWrong : ChangeSpec := { name := "imageMakes", fn := fun _ => fun
  | [d1, d2, d3, d4] => { results := [.lit (.bool false)], args := [d1, d2, d3, d4] }
  | _ => none }
def ImageMakesWrongFalsely : Prop := imageMakesRow.holds Try.pinned (OpenSpec.ofChange imageMakesWrong)

/-- 'proctorlaw3.ImageCells': WHATEVER THE INPUT: true; the input reads as it did. -/
def imageCellsSpec : ChangeSpec := { name := "imageCells", fn := fun _ => fun
  | [d1, d2, d3, d4, d5] => { results := [.lit (.bool true)], args := [d1, d2, d3, d4, d5] }
  | _ => none }
def imageCellsRow : OpenClaim := { program := "yteldbkdfphkdbaa", sum := "2fcfc09e06999af52a359c6fabaf4c5ec76b8c19fb965c4d2d4764b37cabbee7", func := "proctor/proctorlaw3.ImageCells", spec := "imageCells", apart := false }
def ImageCellsSaid : Prop := imageCellsRow.holds Try.pinned (OpenSpec.ofChange imageCellsSpec)

/-- ITS FALSE NEIGHBOUR: 'it returns false'. Refute it at one input. -/
def imageCellsWrong : ChangeSpec := { name := "imageCells", fn := fun _ => fun
  | [d1, d2, d3, d4, d5] => { results := [.lit (.bool false)], args := [d1, d2, d3, d4, d5] }
  | _ => none }
def ImageCellsWrongFalsely : Prop := imageCellsRow.holds Try.pinned (OpenSpec.ofChange imageCellsWrong)

/-- 'proctorlaw3.ImageParts': WHATEVER THE INPUT: true; the input reads as it did. -/
def imagePartsSpec : ChangeSpec := { name := "imageParts", fn := fun _ => fun
  | [d1, d2, d3, d4, d5] => { results := [.lit (.bool true)], args := [d1, d2, d3, d4, d5] }
  | _ => none }
def imagePartsRow : OpenClaim := { program := "yteldbkdfphkdbaa", sum := "2fcfc09e06999af52a359c6fabaf4c5ec76b8c19fb965c4d2d4764b37cabbee7", func := "proctor/proctorlaw3.ImageParts", spec := "imageParts", apart := false }
def ImagePartsSaid : Prop := imagePartsRow.holds Try.pinned (OpenSpec.ofChange imagePartsSpec)

/-- ITS FALSE NEIGHBOUR: 'it returns false'. Refute it at one input. -/
def imagePartsWrong : ChangeSpec := { name := "imageParts", fn := fun _ => fun
  | [d1, d2, d3, d4, d5] => { results := [.lit (.bool false)], args := [d1, d2, d3, d4, d5] }
  | _ => none }
def ImagePartsWrongFalsely : Prop := imagePartsRow.holds Try.pinned (OpenSpec.ofChange imagePartsWrong)

/-- 'proctorlaw3.ImageMoves': WHATEVER THE INPUT: true; the input reads as it did. -/
def imageMovesSpec : ChangeSpec := { name := "imageMoves", fn := fun _ => fun
  | [d1, d2, d3, d4, d5] => { results := [.lit (.bool true)], args := [d1, d2, d3, d4, d5] }
  | _ => none }
def imageMovesRow : OpenClaim := { program := "yteldbkdfphkdbaa", sum := "2fcfc09e06999af52a359c6fabaf4c5ec76b8c19fb965c4d2d4764b37cabbee7", func := "proctor/proctorlaw3.ImageMoves", spec := "imageMoves", apart := false }
def ImageMovesSaid : Prop := imageMovesRow.holds Try.pinned (OpenSpec.ofChange imageMovesSpec)

/-- ITS FALSE NEIGHBOUR: 'it returns false'. Refute it at one input. -/
def imageMovesWrong : ChangeSpec := { name := "imageMoves", fn := fun _ => fun
  | [d1, d2, d3, d4, d5] => { results := [.lit (.bool false)], args := [d1, d2, d3, d4, d5] }
  | _ => none }
def ImageMovesWrongFalsely : Prop := imageMovesRow.holds Try.pinned (OpenSpec.ofChange imageMovesWrong)

/-- 'proctorlaw3.ImageFences': WHATEVER THE INPUT: true; the input reads as it did. -/
def imageFencesSpec : ChangeSpec := { name := "imageFences", fn := fun _ => fun
  | [d1, d2, d3, d4] => { results := [.lit (.bool true)], args := [d1, d2, d3, d4] }
  | _ => none }
def imageFencesRow : OpenClaim := { program := "yteldbkdfphkdbaa", sum := "2fcfc09e06999af52a359c6fabaf4c5ec76b8c19fb965c4d2d4764b37cabbee7", func := "proctor/proctorlaw3.ImageFences", spec := "imageFences", inPlace := ["internal/bytealg.MakeNoZero"], apart := false }
def ImageFencesSaid : Prop := imageFencesRow.holds Try.pinned (OpenSpec.ofChange imageFencesSpec)

/-- ITS FALSE NEIGHBOUR: 'it returns false'. Refute it at one input. -/
def imageFencesWrong : ChangeSpec := { name := "imageFences", fn := fun _ => fun
  | [d1, d2, d3, d4] => { results := [.lit (.bool false)], args := [d1, d2, d3, d4] }
  | _ => none }
def ImageFencesWrongFalsely : Prop := imageFencesRow.holds Try.pinned (OpenSpec.ofChange imageFencesWrong)

/-- 'proctorlaw3.ImageKernel': WHATEVER THE INPUT: true; the input reads as it did. -/
def imageKernelSpec : ChangeSpec := { name := "imageKernel", fn := fun _ => fun
  | [d1, d2, d3, d4] => { results := [.lit (.bool true)], args := [d1, d2, d3, d4] }
  | _ => none }
def imageKernelRow : OpenClaim := { program := "yteldbkdfphkdbaa", sum := "2fcfc09e06999af52a359c6fabaf4c5ec76b8c19fb965c4d2d4764b37cabbee7", func := "proctor/proctorlaw3.ImageKernel", spec := "imageKernel", inPlace := ["internal/bytealg.MakeNoZero"], apart := false }
def ImageKernelSaid : Prop := imageKernelRow.holds Try.pinned (OpenSpec.ofChange imageKernelSpec)

/-- ITS FALSE NEIGHBOUR: 'it returns false'. Refute it at one input. -/
def imageKernelWrong : ChangeSpec := { name := "imageKernel", fn := fun _ => fun
  | [d1, d2, d3, d4] => { results := [.lit (.bool false)], args := [d1, d2, d3, d4] }
  | _ => none }
def ImageKernelWrongFalsely : Prop := imageKernelRow.holds Try.pinned (OpenSpec.ofChange imageKernelWrong)

/-- 'proctorlaw3.ImagePlays': WHATEVER THE INPUT: true; the input reads as it did. -/
def imagePlaysSpec : ChangeSpec := { name := "imagePlays", fn := fun _ => fun
  | [d1, d2] => { results := [.lit (.bool true)], args := [d1, d2] }
  | _ => none }
def imagePlaysRow : OpenClaim := { program := "yteldbkdfphkdbaa", sum := "2fcfc09e06999af52a359c6fabaf4c5ec76b8c19fb965c4d2d4764b37cabbee7", func := "proctor/proctorlaw3.ImagePlays", spec := "imagePlays", inPlace := ["internal/bytealg.MakeNoZero"], apart := false }
def ImagePlaysSaid : Prop := imagePlaysRow.holds Try.pinned (OpenSpec.ofChange imagePlaysSpec)

/-- ITS FALSE NEIGHBOUR: 'it returns false'. Refute it at one input. -/
def imagePlaysWrong : ChangeSpec := { name := "imagePlays", fn := fun _ => fun
  | [d1, d2] => { results := [.lit (.bool false)], args := [d1, d2] }
  | _ => none }
def ImagePlaysWrongFalsely : Prop := imagePlaysRow.holds Try.pinned (OpenSpec.ofChange imagePlaysWrong)

/- THE SECOND FORM. 'bulk': how many values and letters a reading holds, each counted each time it is reached (what is shared counts as often as it is met; a slice's spare places count too). A statement '..UptoSaid' is the law's where the arguments, and the package variables that the reading takes, are together of bulk at most 1048576: NARROWER than '..Said'. Prove '..Said' where nothing that the law and all that it calls make is longer than what came in: it says more and counts as full. Else prove '..UptoSaid'. A law counts once. -/
mutual
def uptoBulk {H : Type} : DataW H → Nat
  | .lit (.string bytes) => bytes.length + 1
  | .lit _ => 1
  | .nil => 1
  | .ptr d => uptoBulk d + 1
  | .slice elems spare => uptoBulkAll elems + uptoBulkAll spare + 1
  | .agg parts => uptoBulkAll parts + 1
  | .iface _ d => uptoBulk d + 1
  | .map entries => uptoBulkEntries entries + 1
  | .held _ => 1
def uptoBulkAll {H : Type} : List (DataW H) → Nat
  | [] => 0
  | d :: r => uptoBulk d + uptoBulkAll r
def uptoBulkEntries {H : Type} : List (Lit × DataW H) → Nat
  | [] => 0
  | x :: r => uptoBulkEntry x + uptoBulkEntries r
def uptoBulkEntry {H : Type} : Lit × DataW H → Nat
  | (.string bytes, d) => bytes.length + uptoBulk d + 1
  | (_, d) => uptoBulk d + 1
 end
def uptoSmall : (H : Type) → List (DataW H) → Bool := fun _ ds => decide (uptoBulkAll ds ≤ 1048576)
def OpenSpec.upto (s : _root_.Go.ChangeSpec) : _root_.Go.OpenSpec := { _root_.Go.OpenSpec.ofChange s with cond := some uptoSmall }

/-- 'proctorlaw3.ImageMakes', WHERE WHAT IT READS IS OF BULK AT MOST 1048576: true; the input reads as it did. -/
def imageMakesUptoRow : OpenClaim := { program := "yteldbkdfphkdbaa", sum := "2fcfc09e06999af52a359c6fabaf4c5ec76b8c19fb965c4d2d4764b37cabbee7", func := "proctor/proctorlaw3.ImageMakes", spec := "imageMakes", apart := false, narrowed := true }
def ImageMakesUptoSaid : Prop := imageMakesUptoRow.holds Try.pinned (OpenSpec.upto imageMakesSpec)

/-- 'proctorlaw3.ImageCells', WHERE WHAT IT READS IS OF BULK AT MOST 1048576: true; the input reads as it did. -/
def imageCellsUptoRow : OpenClaim := { program := "yteldbkdfphkdbaa", sum := "2fcfc09e06999af52a359c6fabaf4c5ec76b8c19fb965c4d2d4764b37cabbee7", func := "proctor/proctorlaw3.ImageCells", spec := "imageCells", apart := false, narrowed := true }
def ImageCellsUptoSaid : Prop := imageCellsUptoRow.holds Try.pinned (OpenSpec.upto imageCellsSpec)

/-- 'proctorlaw3.ImageParts', WHERE WHAT IT READS IS OF BULK AT MOST 1048576: true; the input reads as it did. -/
def imagePartsUptoRow : OpenClaim := { program := "yteldbkdfphkdbaa", sum := "2fcfc09e06999af52a359c6fabaf4c5ec76b8c19fb965c4d2d4764b37cabbee7", func := "proctor/proctorlaw3.ImageParts", spec := "imageParts", apart := false, narrowed := true }
def ImagePartsUptoSaid : Prop := imagePartsUptoRow.holds Try.pinned (OpenSpec.upto imagePartsSpec)

/-- 'proctorlaw3.ImageMoves', WHERE WHAT IT READS IS OF BULK AT MOST 1048576: true; the input reads as it did. -/
def imageMovesUptoRow : OpenClaim := { program := "yteldbkdfphkdbaa", sum := "2fcfc09e06999af52a359c6fabaf4c5ec76b8c19fb965c4d2d4764b37cabbee7", func := "proctor/proctorlaw3.ImageMoves", spec := "imageMoves", apart := false, narrowed := true }
def ImageMovesUptoSaid : Prop := imageMovesUptoRow.holds Try.pinned (OpenSpec.upto imageMovesSpec)

/-- 'proctorlaw3.ImageFences', WHERE WHAT IT READS IS OF BULK AT MOST 1048576: true; the input reads as it did. -/
def imageFencesUptoRow : OpenClaim := { program := "yteldbkdfphkdbaa", sum := "2fcfc09e06999af52a359c6fabaf4c5ec76b8c19fb965c4d2d4764b37cabbee7", func := "proctor/proctorlaw3.ImageFences", spec := "imageFences", inPlace := ["internal/bytealg.MakeNoZero"], apart := false, narrowed := true }
def ImageFencesUptoSaid : Prop := imageFencesUptoRow.holds Try.pinned (OpenSpec.upto imageFencesSpec)

/-- 'proctorlaw3.ImageKernel', WHERE WHAT IT READS IS OF BULK AT MOST 1048576: true; the input reads as it did. -/
def imageKernelUptoRow : OpenClaim := { program := "yteldbkdfphkdbaa", sum := "2fcfc09e06999af52a359c6fabaf4c5ec76b8c19fb965c4d2d4764b37cabbee7", func := "proctor/proctorlaw3.ImageKernel", spec := "imageKernel", inPlace := ["internal/bytealg.MakeNoZero"], apart := false, narrowed := true }
def ImageKernelUptoSaid : Prop := imageKernelUptoRow.holds Try.pinned (OpenSpec.upto imageKernelSpec)

/-- 'proctorlaw3.ImagePlays', WHERE WHAT IT READS IS OF BULK AT MOST 1048576: true; the input reads as it did. -/
def imagePlaysUptoRow : OpenClaim := { program := "yteldbkdfphkdbaa", sum := "2fcfc09e06999af52a359c6fabaf4c5ec76b8c19fb965c4d2d4764b37cabbee7", func := "proctor/proctorlaw3.ImagePlays", spec := "imagePlays", inPlace := ["internal/bytealg.MakeNoZero"], apart := false, narrowed := true }
def ImagePlaysUptoSaid : Prop := imagePlaysUptoRow.holds Try.pinned (OpenSpec.upto imagePlaysSpec)

end Rows
end Go.Proofs.Yteldbkdfphkdbaa
