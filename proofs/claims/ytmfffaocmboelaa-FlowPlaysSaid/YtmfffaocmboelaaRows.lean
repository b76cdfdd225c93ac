/-
  No cell of these rows narrows 'for every input' (looked for: loops, veiled, ifaces, maps, wideKeys, modest, calm, conditions, laid).
  DERIVED. THE GIVEN ROWS OF THIS SEAT. 4 by the template 'for every input the law returns true; each argument reads behind the call as it read before'; 0 by the template 'total and deterministic' (their statements: YtmfffaocmboelaaTotals.lean).
  GIVEN WITH THE SEED: the statements are not yours to turn. If you find one false, say at which input.
  Laid BY PROGRAM, IN A SANDBOX (cutbox-rows.mjs): the forced cells as the released guide's own fill.sh prints them over the translation b3c8ba757260a2da… (all of the seat's roots in one cut). By AI agents, Wed Nov 11 2026. No macro, syntax, notation, axiom, sorry.
-/
import Derived.Test.YtmfffaocmboelaaChecked
import GoSem.Claim
import GoSem.ClaimJoined
import GoSem.ClaimMapViews
import Derived.JoinedTies
import Derived.KernelRfl
namespace Go.Proofs.Ytmfffaocmboelaa
/- THE CELL 'sum', in the pinned program and in every row, IS THE sha256 OF THE DUMP (.gsa) THAT YtmfffaocmboelaaProg.lean LOADS. Nothing in Lean hashes anything: it is a label: what it is worth is what the hold of that sum in a sandbox is worth. -/
noncomputable def Try.pinned : Pinned := { name := "ytmfffaocmboelaa", sum := "b3c8ba757260a2dadc110ec198934ca1fe33860e5eb22015f58ad2dfa0e36ed6", checked := Try.checked }
namespace Rows
def none {H : Type} : Left H := { results := [], args := [] }

/-- 'proctorlaw12.FlowKnown': WHATEVER THE INPUT: true; the input reads as it did. -/
def flowKnownSpec : ChangeSpec := { name := "flowKnown", fn := fun _ => fun
  | [d] => { results := [.lit (.bool true)], args := [d] }
  | _ => none }
def flowKnownRow : OpenClaim := { program := "ytmfffaocmboelaa", sum := "b3c8ba757260a2dadc110ec198934ca1fe33860e5eb22015f58ad2dfa0e36ed6", func := "proctor/proctorlaw12.FlowKnown", spec := "flowKnown", apart := false }
def FlowKnownSaid : Prop := flowKnownRow.holds Try.pinned (OpenSpec.ofChange flowKnownSpec)

/-- ITS FALSE NEIGHBOUR: 'it returns false'. Refute it at one input. -/
def flowKnownWrong : ChangeSpec := { name := "flowKnown", fn := fun _ => fun
  | [d] => { results := [.lit (.bool false)], args := [d] }
  | _ => none }
def FlowKnownWrongFalsely : Prop := flowKnownRow.holds Try.pinned (OpenSpec.ofChange flowKnownWrong)

/-- 'proctorlaw12.FlowShifts': WHATEVER THE INPUT: true; the input reads as it did. -/
def flowShiftsSpec : ChangeSpec := { name := "flowShifts", fn := fun _ => fun
  | [d1, d2, d3] => { results := [.lit (.bool true)], args := [d1, d2, d3] }
  | _ => none }
def flowShiftsRow : OpenClaim := { program := "ytmfffaocmboelaa", sum := "b3c8ba757260a2dadc110ec198934ca1fe33860e5eb22015f58ad2dfa0e36ed6", func := "proctor/proctorlaw12.FlowShifts", spec := "flowShifts", apart := false }
def FlowShiftsSaid : Prop := flowShiftsRow.holds Try.pinned (OpenSpec.ofChange flowShiftsSpec)

/-- ITS FALSE NEIGHBOUR: 'it returns false'. Refute it at one input. -/
def flowShiftsWrong : ChangeSpec := { name := "flowShifts", fn := fun _ => fun
  | [d1, d2, d3] => { results := [.lit (.bool false)], args := [d1, d2, d3] }
  | _ => none }
def FlowShiftsWrongFalsely : Prop := flowShiftsRow.holds Try.pinned (OpenSpec.ofChange flowShiftsWrong)

/-- 'proctorlaw12.FlowPatches': WHATEVER THE INPUT: true; the input reads as it did. -/
def flowPatchesSpec : ChangeSpec := { name := "flowPatches", fn := fun _ => fun
  | [d1, d2] => { results := [.lit (.bool true)], args := [d1, d2] }
  | _ => none }
def flowPatchesRow : OpenClaim := { program := "ytmfffaocmboelaa", sum := "b3c8ba757260a2dadc110ec198934ca1fe33860e5eb22015f58ad2dfa0e36ed6", func := "proctor/proctorlaw12.FlowPatches", spec := "flowPatches", apart := false }
def FlowPatchesSaid : Prop := flowPatchesRow.holds Try.pinned (OpenSpec.ofChange flowPatchesSpec)

/-- ITS FALSE NEIGHBOUR: 'it returns false'. Refute it at one input. -/
def flowPatchesWrong : ChangeSpec := { name := "flowPatches", fn := fun _ => fun
  | [d1, d2] => { results := [.lit (.bool false)], args := [d1, d2] }
  | _ => none }
def FlowPatchesWrongFalsely : Prop := flowPatchesRow.holds Try.pinned (OpenSpec.ofChange flowPatchesWrong)

/-- 'proctorlaw12.FlowPlays': WHATEVER THE INPUT: true; the input reads as it did. -/
def flowPlaysSpec : ChangeSpec := { name := "flowPlays", fn := fun _ => fun
  | [d] => { results := [.lit (.bool true)], args := [d] }
  | _ => none }
def flowPlaysRow : OpenClaim := { program := "ytmfffaocmboelaa", sum := "b3c8ba757260a2dadc110ec198934ca1fe33860e5eb22015f58ad2dfa0e36ed6", func := "proctor/proctorlaw12.FlowPlays", spec := "flowPlays", apart := false }
def FlowPlaysSaid : Prop := flowPlaysRow.holds Try.pinned (OpenSpec.ofChange flowPlaysSpec)

/-- ITS FALSE NEIGHBOUR: 'it returns false'. Refute it at one input. -/
def flowPlaysWrong : ChangeSpec := { name := "flowPlays", fn := fun _ => fun
  | [d] => { results := [.lit (.bool false)], args := [d] }
  | _ => none }
def FlowPlaysWrongFalsely : Prop := flowPlaysRow.holds Try.pinned (OpenSpec.ofChange flowPlaysWrong)

/- THE SECOND FORM. 'bulk': how many values and letters a reading holds, each counted each time it is reached (what is shared counts as often as it is met; a slice's spare places count too). A statement '..UptoSaid' is the law's where the arguments, and the package variables that the reading takes, are together of bulk at most 1048576: NARROWER than '..Said'. Prove '..Said' where nothing that the law and all that it calls make is longer than what came in: it says more and counts as full. Else prove '..UptoSaid'. A law counts once. -/
mutual
def uptoBulk {H : Type} : DataW H → Nat
  | .lit (.string bytes) => bytes.length + 1
  | .lit _ => 1
  | .nil => 1
  | .ptr d => uptoBulk d + 1
  | .slice elems spare => uptoBulkAll elems + uptoBulkAll spare + 1
  | .agg parts => uptoBulkAll parts + 1
  | .iface _ d => uptoBulk d + 1
  | .map entries => uptoBulkEntries entries + 1
  | .held _ => 1
def uptoBulkAll {H : Type} : List (DataW H) → Nat
  | [] => 0
  | d :: r => uptoBulk d + uptoBulkAll r
def uptoBulkEntries {H : Type} : List (Lit × DataW H) → Nat
  | [] => 0
  | x :: r => uptoBulkEntry x + uptoBulkEntries r
def uptoBulkEntry {H : Type} : Lit × DataW H → Nat
  | (.string bytes, d) => bytes.length + uptoBulk d + 1
  | (_, d) => uptoBulk d + 1
 end
def uptoSmall : (H : Type) → List (DataW H) → Bool := fun _ ds => decide (uptoBulkAll ds ≤ 1048576)
def OpenSpec.upto (s : _root_.Go.ChangeSpec) : _root_.Go.OpenSpec := { _root_.Go.OpenSpec.ofChange s with cond := some uptoSmall }

/-- 'proctorlaw12.FlowKnown', WHERE WHAT IT READS IS OF BULK AT MOST 1048576: true; the input reads as it did. -/
def flowKnownUptoRow : OpenClaim := { program := "ytmfffaocmboelaa", sum := "b3c8ba757260a2dadc110ec198934ca1fe33860e5eb22015f58ad2dfa0e36ed6", func := "proctor/proctorlaw12.FlowKnown", spec := "flowKnown", apart := false, narrowed := true }
def FlowKnownUptoSaid : Prop := flowKnownUptoRow.holds Try.pinned (OpenSpec.upto flowKnownSpec)

/-- 'proctorlaw12.FlowShifts', WHERE WHAT IT READS IS OF BULK AT MOST 1048576: true; the input reads as it did. -/
def flowShiftsUptoRow : OpenClaim := { program := "ytmfffaocmboelaa", sum := "b3c8ba757260a2dadc110ec198934ca1fe33860e5eb22015f58ad2dfa0e36ed6", func := "proctor/proctorlaw12.FlowShifts", spec := "flowShifts", apart := false, narrowed := true }
def FlowShiftsUptoSaid : Prop := flowShiftsUptoRow.holds Try.pinned (OpenSpec.upto flowShiftsSpec)

/-- 'proctorlaw12.FlowPatches', WHERE WHAT IT READS IS OF BULK AT MOST 1048576: true; the input reads as it did. -/
def flowPatchesUptoRow : OpenClaim := { program := "ytmfffaocmboelaa", sum := "b3c8ba757260a2dadc110ec198934ca1fe33860e5eb22015f58ad2dfa0e36ed6", func := "proctor/proctorlaw12.FlowPatches", spec := "flowPatches", apart := false, narrowed := true }
def FlowPatchesUptoSaid : Prop := flowPatchesUptoRow.holds Try.pinned (OpenSpec.upto flowPatchesSpec)

/-- 'proctorlaw12.FlowPlays', WHERE WHAT IT READS IS OF BULK AT MOST 1048576: true; the input reads as it did. -/
def flowPlaysUptoRow : OpenClaim := { program := "ytmfffaocmboelaa", sum := "b3c8ba757260a2dadc110ec198934ca1fe33860e5eb22015f58ad2dfa0e36ed6", func := "proctor/proctorlaw12.FlowPlays", spec := "flowPlays", apart := false, narrowed := true }
def FlowPlaysUptoSaid : Prop := flowPlaysUptoRow.holds Try.pinned (OpenSpec.upto flowPlaysSpec)

end Rows
end Go.Proofs.Ytmfffaocmboelaa
