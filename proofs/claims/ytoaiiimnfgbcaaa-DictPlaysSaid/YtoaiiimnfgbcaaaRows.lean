/-
  No cell of these rows narrows 'for every input' (looked for: loops, veiled, ifaces, maps, wideKeys, modest, calm, conditions, laid).
  DERIVED. THE GIVEN ROWS OF THIS SEAT. 4 by the template 'for every input the law returns true; each argument reads behind the call as it read before'; 0 by the template 'total and deterministic' (their statements: YtoaiiimnfgbcaaaTotals.lean).
  GIVEN WITH THE SEED: the statements are not yours to turn. If you find one false, say at which input.
  Laid BY PROGRAM, IN A SANDBOX (cutbox-rows.mjs): the forced cells as the released guide's own fill.sh prints them over the translation 18b30d596d436f10… (all of the seat's roots in one cut). By AI agents, Wed Nov 11 2026. No macro, syntax, notation, axiom, sorry.
-/
import Derived.Test.YtoaiiimnfgbcaaaChecked
import GoSem.Claim
import GoSem.ClaimJoined
import GoSem.ClaimMapViews
import Derived.JoinedTies
import Derived.KernelRfl
namespace Go.Proofs.Ytoaiiimnfgbcaaa
/- THE CELL 'sum', in the pinned program and in every row, IS THE sha256 OF THE DUMP (.gsa) THAT YtoaiiimnfgbcaaaProg.lean LOADS. Nothing in Lean hashes anything: it is a label: what it is worth is what the hold of that sum in a sandbox is worth. -/
noncomputable def Try.pinned : Pinned := { name := "ytoaiiimnfgbcaaa", sum := "18b30d596d436f10a158aa886be3fe778d11e324d1d169da814de4e214022f07", checked := Try.checked }
namespace Rows
def none {H : Type} : Left H := { results := [], args := [] }

/-- 'proctorlaw8.DictBegins': WHATEVER THE INPUT: true; the input reads as it did. -/
def dictBeginsSpec : ChangeSpec := { name := "dictBegins", fn := fun _ => fun
  | [d1, d2] => { results := [.lit (.bool true)], args := [d1, d2] }
  | _ => none }
def dictBeginsRow : OpenClaim := { program := "ytoaiiimnfgbcaaa", sum := "18b30d596d436f10a158aa886be3fe778d11e324d1d169da814de4e214022f07", func := "proctor/proctorlaw8.DictBegins", spec := "dictBegins", unfollowed := true, recurses := true, apart := false }
def DictBeginsSaid : Prop := dictBeginsRow.holds Try.pinned (OpenSpec.ofChange dictBeginsSpec)

/-- ITS FALSE NEIGHBOUR: 'it returns false'. Refute it at one input. -/
def dictBeginsWrong : ChangeSpec := { name := "dictBegins", fn := fun _ => fun
  | [d1, d2] => { results := [.lit (.bool false)], args := [d1, d2] }
  | _ => none }
def DictBeginsWrongFalsely : Prop := dictBeginsRow.holds Try.pinned (OpenSpec.ofChange dictBeginsWrong)

/-- 'proctorlaw8.DictRanges': WHATEVER THE INPUT: true; the input reads as it did. -/
def dictRangesSpec : ChangeSpec := { name := "dictRanges", fn := fun _ => fun
  | [d1, d2, d3] => { results := [.lit (.bool true)], args := [d1, d2, d3] }
  | _ => none }
def dictRangesRow : OpenClaim := { program := "ytoaiiimnfgbcaaa", sum := "18b30d596d436f10a158aa886be3fe778d11e324d1d169da814de4e214022f07", func := "proctor/proctorlaw8.DictRanges", spec := "dictRanges", unfollowed := true, recurses := true, apart := false }
def DictRangesSaid : Prop := dictRangesRow.holds Try.pinned (OpenSpec.ofChange dictRangesSpec)

/-- ITS FALSE NEIGHBOUR: 'it returns false'. Refute it at one input. -/
def dictRangesWrong : ChangeSpec := { name := "dictRanges", fn := fun _ => fun
  | [d1, d2, d3] => { results := [.lit (.bool false)], args := [d1, d2, d3] }
  | _ => none }
def DictRangesWrongFalsely : Prop := dictRangesRow.holds Try.pinned (OpenSpec.ofChange dictRangesWrong)

/-- 'proctorlaw8.DictFinds': WHATEVER THE INPUT: true; the input reads as it did. -/
def dictFindsSpec : ChangeSpec := { name := "dictFinds", fn := fun _ => fun
  | [d1, d2, d3] => { results := [.lit (.bool true)], args := [d1, d2, d3] }
  | _ => none }
def dictFindsRow : OpenClaim := { program := "ytoaiiimnfgbcaaa", sum := "18b30d596d436f10a158aa886be3fe778d11e324d1d169da814de4e214022f07", func := "proctor/proctorlaw8.DictFinds", spec := "dictFinds", unfollowed := true, recurses := true, apart := false }
def DictFindsSaid : Prop := dictFindsRow.holds Try.pinned (OpenSpec.ofChange dictFindsSpec)

/-- ITS FALSE NEIGHBOUR: 'it returns false'. Refute it at one input. -/
def dictFindsWrong : ChangeSpec := { name := "dictFinds", fn := fun _ => fun
  | [d1, d2, d3] => { results := [.lit (.bool false)], args := [d1, d2, d3] }
  | _ => none }
def DictFindsWrongFalsely : Prop := dictFindsRow.holds Try.pinned (OpenSpec.ofChange dictFindsWrong)

/-- 'proctorlaw8.DictPlays': WHATEVER THE INPUT: true; the input reads as it did. -/
def dictPlaysSpec : ChangeSpec := { name := "dictPlays", fn := fun _ => fun
  | [d1, d2] => { results := [.lit (.bool true)], args := [d1, d2] }
  | _ => none }
def dictPlaysRow : OpenClaim := { program := "ytoaiiimnfgbcaaa", sum := "18b30d596d436f10a158aa886be3fe778d11e324d1d169da814de4e214022f07", func := "proctor/proctorlaw8.DictPlays", spec := "dictPlays", unfollowed := true, recurses := true, apart := false }
def DictPlaysSaid : Prop := dictPlaysRow.holds Try.pinned (OpenSpec.ofChange dictPlaysSpec)

/-- ITS FALSE NEIGHBOUR: 'it returns false'. Refute it at one input. -/
def dictPlaysWrong : ChangeSpec := { name := "dictPlays", fn := fun _ => fun
  | [d1, d2] => { results := [.lit (.bool false)], args := [d1, d2] }
  | _ => none }
def DictPlaysWrongFalsely : Prop := dictPlaysRow.holds Try.pinned (OpenSpec.ofChange dictPlaysWrong)

/- THE SECOND FORM. 'bulk': how many values and letters a reading holds, each counted each time it is reached (what is shared counts as often as it is met; a slice's spare places count too). A statement '..UptoSaid' is the law's where the arguments, and the package variables that the reading takes, are together of bulk at most 1048576: NARROWER than '..Said'. Prove '..Said' where nothing that the law and all that it calls make is longer than what came in: it says more and counts as full. Else prove '..UptoSaid'. A law counts once. -/
mutual
def uptoBulk {H : Type} : DataW H → Nat
  | .lit (.string bytes) => bytes.length + 1
  | .lit _ => 1
  | .nil => 1
  | .ptr d => uptoBulk d + 1
  | .slice elems spare => uptoBulkAll elems + uptoBulkAll spare + 1
  | .agg parts => uptoBulkAll parts + 1
  | .iface _ d => uptoBulk d + 1
  | .map entries => uptoBulkEntries entries + 1
  | .held _ => 1
def uptoBulkAll {H : Type} : List (DataW H) → Nat
  | [] => 0
  | d :: r => uptoBulk d + uptoBulkAll r
def uptoBulkEntries {H : Type} : List (Lit × DataW H) → Nat
  | [] => 0
  | x :: r => uptoBulkEntry x + uptoBulkEntries r
def uptoBulkEntry {H : Type} : Lit × DataW H → Nat
  | (.string bytes, d) => bytes.length + uptoBulk d + 1
  | (_, d) => uptoBulk d + 1
 end
def uptoSmall : (H : Type) → List (DataW H) → Bool := fun _ ds => decide (uptoBulkAll ds ≤ 1048576)
def OpenSpec.upto (s : _root_.Go.ChangeSpec) : _root_.Go.OpenSpec := { _root_.Go.OpenSpec.ofChange s with cond := some uptoSmall }

/-- 'proctorlaw8.DictBegins', WHERE WHAT IT READS IS OF BULK AT MOST 1048576: true; the input reads as it did. -/
def dictBeginsUptoRow : OpenClaim := { program := "ytoaiiimnfgbcaaa", sum := "18b30d596d436f10a158aa886be3fe778d11e324d1d169da814de4e214022f07", func := "proctor/proctorlaw8.DictBegins", spec := "dictBegins", unfollowed := true, recurses := true, apart := false, narrowed := true }
def DictBeginsUptoSaid : Prop := dictBeginsUptoRow.holds Try.pinned (OpenSpec.upto dictBeginsSpec)

/-- 'proctorlaw8.DictRanges', WHERE WHAT IT READS IS OF BULK AT MOST 1048576: true; the input reads as it did. -/
def dictRangesUptoRow : OpenClaim := { program := "ytoaiiimnfgbcaaa", sum := "18b30d596d436f10a158aa886be3fe778d11e324d1d169da814de4e214022f07", func := "proctor/proctorlaw8.DictRanges", spec := "dictRanges", unfollowed := true, recurses := true, apart := false, narrowed := true }
def DictRangesUptoSaid : Prop := dictRangesUptoRow.holds Try.pinned (OpenSpec.upto dictRangesSpec)

/-- 'proctorlaw8.DictFinds', WHERE WHAT IT READS IS OF BULK AT MOST 1048576: true; the input reads as it did. -/
def dictFindsUptoRow : OpenClaim := { program := "ytoaiiimnfgbcaaa", sum := "18b30d596d436f10a158aa886be3fe778d11e324d1d169da814de4e214022f07", func := "proctor/proctorlaw8.DictFinds", spec := "dictFinds", unfollowed := true, recurses := true, apart := false, narrowed := true }
def DictFindsUptoSaid : Prop := dictFindsUptoRow.holds Try.pinned (OpenSpec.upto dictFindsSpec)

/-- 'proctorlaw8.DictPlays', WHERE WHAT IT READS IS OF BULK AT MOST 1048576: true; the input reads as it did. -/
def dictPlaysUptoRow : OpenClaim := { program := "ytoaiiimnfgbcaaa", sum := "18b30d596d436f10a158aa886be3fe778d11e324d1d169da814de4e214022f07", func := "proctor/proctorlaw8.DictPlays", spec := "dictPlays", unfollowed := true, recurses := true, apart := false, narrowed := true }
def DictPlaysUptoSaid : Prop := dictPlaysUptoRow.holds Try.pinned (OpenSpec.upto dictPlaysSpec)

end Rows
end Go.Proofs.Ytoaiiimnfgbcaaa
