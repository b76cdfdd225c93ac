/-
  No cell of these rows narrows 'for every input' (looked for: loops, veiled, ifaces, maps, wideKeys, modest, calm, conditions, laid).
  DERIVED. THE GIVEN ROWS OF THIS SEAT. 5 by the template 'for every input the law returns true; each argument reads behind the call as it read before'; 0 by the template 'total and deterministic' (their statements: YtkopgjdnfjgbjaaTotals.lean).
  GIVEN WITH THE SEED: the statements are not yours to turn. If you find one false, say at which input.
  Laid BY PROGRAM, IN A SANDBOX (cutbox-rows.mjs): the forced cells as the released guide's own fill.sh prints them over the translation 5e262ca916936ed2… (all of the seat's roots in one cut). By AI agents, Wed Nov 11 2026. No macro, syntax, notation, axiom, sorry.
-/
import Derived.Test.YtkopgjdnfjgbjaaChecked
import GoSem.Claim
import GoSem.ClaimJoined
import GoSem.ClaimMapViews
import Derived.JoinedTies
import Derived.KernelRfl
namespace Go.Proofs.Ytkopgjdnfjgbjaa
/- THE CELL 'sum', in the pinned program and in every row, IS THE sha256 OF THE DUMP (.gsa) THAT YtkopgjdnfjgbjaaProg.lean LOADS. Nothing in Lean hashes anything: it is a label: what it is worth is what the hold of that sum in a sandbox is worth. -/
noncomputable def Try.pinned : Pinned := { name := "ytkopgjdnfjgbjaa", sum := "5e262ca916936ed291986797b869305addaee8b56d3f283185faac5e3b86be1c", checked := Try.checked }
namespace Rows
def none {H : Type} : Left H := { results := [], args := [] }

/-- 'proctorlaw4.StackBegins': WHATEVER THE INPUT: true; the input reads as it did. -/
def stackBeginsSpec : ChangeSpec := { name := "stackBegins", fn := fun _ => fun
  | [d1, d2, d3] => { results := [.lit (.bool true)], args := [d1, d2, d3] }
  | _ => none }
def stackBeginsRow : OpenClaim := { program := "ytkopgjdnfjgbjaa", sum := "5e262ca916936ed291986797b869305addaee8b56d3f283185faac5e3b86be1c", func := "proctor/proctorlaw4.StackBegins", spec := "stackBegins", unfollowed := true, recurses := true, apart := false }
def StackBeginsSaid : Prop := stackBeginsRow.holds Try.pinned (OpenSpec.ofChange stackBeginsSpec)

/-- ITS FALSE NEIGHBOUR: 'it returns false'. Refute it at one input. -/
def stackBeginsWrong : ChangeSpec := { name := "stackBegins", fn := fun _ => fun
  | [d1, d2, d3] => { results := [.lit (.bool false)], args := [d1, d2, d3] }
  | _ => none }
def StackBeginsWrongFalsely : Prop := stackBeginsRow.holds Try.pinned (OpenSpec.ofChange stackBeginsWrong)

/-- 'proctorlaw4.StackBack': WHATEVER THE INPUT: true; the input reads as it did. -/
def stackBackSpec : ChangeSpec := { name := "stackBack", fn := fun _ => fun
  | [d1, d2, d3] => { results := [.lit (.bool true)], args := [d1, d2, d3] }
  | _ => none }
def stackBackRow : OpenClaim := { program := "ytkopgjdnfjgbjaa", sum := "5e262ca916936ed291986797b869305addaee8b56d3f283185faac5e3b86be1c", func := "proctor/proctorlaw4.StackBack", spec := "stackBack", unfollowed := true, recurses := true, apart := false }
def StackBackSaid : Prop := stackBackRow.holds Try.pinned (OpenSpec.ofChange stackBackSpec)

/-- ITS FALSE NEIGHBOUR: 'it returns false'. Refute it at one input. -/
def stackBackWrong : ChangeSpec := { name := "stackBack", fn := fun _ => fun
  | [d1, d2, d3] => { results := [.lit (.bool false)], args := [d1, d2, d3] }
  | _ => none }
def StackBackWrongFalsely : Prop := stackBackRow.holds Try.pinned (OpenSpec.ofChange stackBackWrong)

/-- 'proctorlaw4.StackImage': WHATEVER THE INPUT: true; the input reads as it did. -/
def stackImageSpec : ChangeSpec := { name := "stackImage", fn := fun _ => fun
  | [d1, d2, d3] => { results := [.lit (.bool true)], args := [d1, d2, d3] }
  | _ => none }
def stackImageRow : OpenClaim := { program := "ytkopgjdnfjgbjaa", sum := "5e262ca916936ed291986797b869305addaee8b56d3f283185faac5e3b86be1c", func := "proctor/proctorlaw4.StackImage", spec := "stackImage", unfollowed := true, recurses := true, apart := false }
def StackImageSaid : Prop := stackImageRow.holds Try.pinned (OpenSpec.ofChange stackImageSpec)

/-- ITS FALSE NEIGHBOUR: 'it returns false'. Refute it at one input. -/
def stackImageWrong : ChangeSpec := { name := "stackImage", fn := fun _ => fun
  | [d1, d2, d3] => { results := [.lit (.bool false)], args := [d1, d2, d3] }
  | _ => none }
def StackImageWrongFalsely : Prop := stackImageRow.holds Try.pinned (OpenSpec.ofChange stackImageWrong)

/-- 'proctorlaw4.StackApart': WHATEVER THE INPUT: true; the input reads as it did. -/
def stackApartSpec : ChangeSpec := { name := "stackApart", fn := fun _ => fun
  | [d1, d2, d3, d4] => { results := [.lit (.bool true)], args := [d1, d2, d3, d4] }
  | _ => none }
def stackApartRow : OpenClaim := { program := "ytkopgjdnfjgbjaa", sum := "5e262ca916936ed291986797b869305addaee8b56d3f283185faac5e3b86be1c", func := "proctor/proctorlaw4.StackApart", spec := "stackApart", unfollowed := true, recurses := true, apart := false }
def StackApartSaid : Prop := stackApartRow.holds Try.pinned (OpenSpec.ofChange stackApartSpec)

/-- ITS FALSE NEIGHBOUR: 'it returns false'. Refute it at one input. -/
def stackApartWrong : ChangeSpec := { name := "stackApart", fn := fun _ => fun
  | [d1, d2, d3, d4] => { results := [.lit (.bool false)], args := [d1, d2, d3, d4] }
  | _ => none }
def StackApartWrongFalsely : Prop := stackApartRow.holds Try.pinned (OpenSpec.ofChange stackApartWrong)

/-- 'proctorlaw4.StackPlays': WHATEVER THE INPUT: true; the input reads as it did. -/
def stackPlaysSpec : ChangeSpec := { name := "stackPlays", fn := fun _ => fun
  | [d1, d2, d3] => { results := [.lit (.bool true)], args := [d1, d2, d3] }
  | _ => none }
def stackPlaysRow : OpenClaim := { program := "ytkopgjdnfjgbjaa", sum := "5e262ca916936ed291986797b869305addaee8b56d3f283185faac5e3b86be1c", func := "proctor/proctorlaw4.StackPlays", spec := "stackPlays", unfollowed := true, recurses := true, apart := false }
def StackPlaysSaid : Prop := stackPlaysRow.holds Try.pinned (OpenSpec.ofChange stackPlaysSpec)

/-- ITS FALSE NEIGHBOUR: 'it returns false'. Refute it at one input. -/
def stackPlaysWrong : ChangeSpec := { name := "stackPlays", fn := fun _ => fun
  | [d1, d2, d3] => { results := [.lit (.bool false)], args := [d1, d2, d3] }
  | _ => none }
def StackPlaysWrongFalsely : Prop := stackPlaysRow.holds Try.pinned (OpenSpec.ofChange stackPlaysWrong)

/- THE SECOND FORM. 'bulk': how many values and letters a reading holds, each counted each time it is reached (what is shared counts as often as it is met; a slice's spare places count too). A statement '..UptoSaid' is the law's where the arguments, and the package variables that the reading takes, are together of bulk at most 1048576: NARROWER than '..Said'. Prove '..Said' where nothing that the law and all that it calls make is longer than what came in: it says more and counts as full. Else prove '..UptoSaid'. A law counts once. -/
mutual
def uptoBulk {H : Type} : DataW H → Nat
  | .lit (.string bytes) => bytes.length + 1
  | .lit _ => 1
  | .nil => 1
  | .ptr d => uptoBulk d + 1
  | .slice elems spare => uptoBulkAll elems + uptoBulkAll spare + 1
  | .agg parts => uptoBulkAll parts + 1
  | .iface _ d => uptoBulk d + 1
  | .map entries => uptoBulkEntries entries + 1
  | .held _ => 1
def uptoBulkAll {H : Type} : List (DataW H) → Nat
  | [] => 0
  | d :: r => uptoBulk d + uptoBulkAll r
def uptoBulkEntries {H : Type} : List (Lit × DataW H) → Nat
  | [] => 0
  | x :: r => uptoBulkEntry x + uptoBulkEntries r
def uptoBulkEntry {H : Type} : Lit × DataW H → Nat
  | (.string bytes, d) => bytes.length + uptoBulk d + 1
  | (_, d) => uptoBulk d + 1
 end
def uptoSmall : (H : Type) → List (DataW H) → Bool := fun _ ds => decide (uptoBulkAll ds ≤ 1048576)
def OpenSpec.upto (s : _root_.Go.ChangeSpec) : _root_.Go.OpenSpec := { _root_.Go.OpenSpec.ofChange s with cond := some uptoSmall }

/-- 'proctorlaw4.StackBegins', WHERE WHAT IT READS IS OF BULK AT MOST 1048576: true; the input reads as it did. -/
def stackBeginsUptoRow : OpenClaim := { program := "ytkopgjdnfjgbjaa", sum := "5e262ca916936ed291986797b869305addaee8b56d3f283185faac5e3b86be1c", func := "proctor/proctorlaw4.StackBegins", spec := "stackBegins", unfollowed := true, recurses := true, apart := false, narrowed := true }
def StackBeginsUptoSaid : Prop := stackBeginsUptoRow.holds Try.pinned (OpenSpec.upto stackBeginsSpec)

/-- 'proctorlaw4.StackBack', WHERE WHAT IT READS IS OF BULK AT MOST 1048576: true; the input reads as it did. -/
def stackBackUptoRow : OpenClaim := { program := "ytkopgjdnfjgbjaa", sum := "5e262ca916936ed291986797b869305addaee8b56d3f283185faac5e3b86be1c", func := "proctor/proctorlaw4.StackBack", spec := "stackBack", unfollowed := true, recurses := true, apart := false, narrowed := true }
def StackBackUptoSaid : Prop := stackBackUptoRow.holds Try.pinned (OpenSpec.upto stackBackSpec)

/-- 'proctorlaw4.StackImage', WHERE WHAT IT READS IS OF BULK AT MOST 1048576: true; the input reads as it did. -/
def stackImageUptoRow : OpenClaim := { program := "ytkopgjdnfjgbjaa", sum := "5e262ca916936ed291986797b869305addaee8b56d3f283185faac5e3b86be1c", func := "proctor/proctorlaw4.StackImage", spec := "stackImage", unfollowed := true, recurses := true, apart := false, narrowed := true }
def StackImageUptoSaid : Prop := stackImageUptoRow.holds Try.pinned (OpenSpec.upto stackImageSpec)

/-- 'proctorlaw4.StackApart', WHERE WHAT IT READS IS OF BULK AT MOST 1048576: true; the input reads as it did. -/
def stackApartUptoRow : OpenClaim := { program := "ytkopgjdnfjgbjaa", sum := "5e262ca916936ed291986797b869305addaee8b56d3f283185faac5e3b86be1c", func := "proctor/proctorlaw4.StackApart", spec := "stackApart", unfollowed := true, recurses := true, apart := false, narrowed := true }
def StackApartUptoSaid : Prop := stackApartUptoRow.holds Try.pinned (OpenSpec.upto stackApartSpec)

/-- 'proctorlaw4.StackPlays', WHERE WHAT IT READS IS OF BULK AT MOST 1048576: true; the input reads as it did. -/
def stackPlaysUptoRow : OpenClaim := { program := "ytkopgjdnfjgbjaa", sum := "5e262ca916936ed291986797b869305addaee8b56d3f283185faac5e3b86be1c", func := "proctor/proctorlaw4.StackPlays", spec := "stackPlays", unfollowed := true, recurses := true, apart := false, narrowed := true }
def StackPlaysUptoSaid : Prop := stackPlaysUptoRow.holds Try.pinned (OpenSpec.upto stackPlaysSpec)

end Rows
end Go.Proofs.Ytkopgjdnfjgbjaa
