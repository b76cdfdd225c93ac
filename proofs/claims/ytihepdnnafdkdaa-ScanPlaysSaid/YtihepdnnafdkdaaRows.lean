/-
  No cell of these rows narrows 'for every input' (looked for: loops, veiled, ifaces, maps, wideKeys, modest, calm, conditions, laid).
  DERIVED. THE GIVEN ROWS OF THIS SEAT. 4 by the template 'for every input the law returns true; each argument reads behind the call as it read before'; 0 by the template 'total and deterministic' (their statements: YtihepdnnafdkdaaTotals.lean).
  GIVEN WITH THE SEED: the statements are not yours to turn. If you find one false, say at which input.
  Laid BY PROGRAM, IN A SANDBOX (cutbox-rows.mjs): the forced cells as the released guide's own fill.sh prints them over the translation eaabb05740a18684… (all of the seat's roots in one cut). By AI agents, Wed Nov 11 2026. No macro, syntax, notation, axiom, sorry.
-/
import Derived.Test.YtihepdnnafdkdaaChecked
import GoSem.Claim
import GoSem.ClaimJoined
import GoSem.ClaimMapViews
import Derived.JoinedTies
import Derived.KernelRfl
namespace Go.Proofs.Ytihepdnnafdkdaa
/- THE CELL 'sum', in the pinned program and in every row, IS THE sha256 OF THE DUMP (.gsa) THAT YtihepdnnafdkdaaProg.lean LOADS. Nothing in Lean hashes anything: it is a label: what it is worth is what the hold of that sum in a sandbox is worth. -/
noncomputable def Try.pinned : Pinned := { name := "ytihepdnnafdkdaa", sum := "eaabb05740a186846e7724c9e0533c970122cdc7dbf417e537a60f3d15113648", checked := Try.checked }
namespace Rows
def none {H : Type} : Left H := { results := [], args := [] }

/-- 'proctorlaw6.ScanWords': WHATEVER THE INPUT: true; the input reads as it did. -/
def scanWordsSpec : ChangeSpec := { name := "scanWords", fn := fun _ => fun
  | [d1, d2] => { results := [.lit (.bool true)], args := [d1, d2] }
  | _ => none }
def scanWordsRow : OpenClaim := { program := "ytihepdnnafdkdaa", sum := "eaabb05740a186846e7724c9e0533c970122cdc7dbf417e537a60f3d15113648", func := "proctor/proctorlaw6.ScanWords", spec := "scanWords", unfollowed := true, recurses := true, apart := false }
def ScanWordsSaid : Prop := scanWordsRow.holds Try.pinned (OpenSpec.ofChange scanWordsSpec)

/-- ITS FALSE NEIGHBOUR: 'it returns false'. Refute it at one input. -/
def scanWordsWrong : ChangeSpec := { name := "scanWords", fn := fun _ => fun
  | [d1, d2] => { results := [.lit (.bool false)], args := [d1, d2] }
  | _ => none }
def ScanWordsWrongFalsely : Prop := scanWordsRow.holds Try.pinned (OpenSpec.ofChange scanWordsWrong)

/-- 'proctorlaw6.ScanPlays': WHATEVER THE INPUT: true; the input reads as it did. -/
def scanPlaysSpec : ChangeSpec := { name := "scanPlays", fn := fun _ => fun
  | [d1, d2, d3] => { results := [.lit (.bool true)], args := [d1, d2, d3] }
  | _ => none }
def scanPlaysRow : OpenClaim := { program := "ytihepdnnafdkdaa", sum := "eaabb05740a186846e7724c9e0533c970122cdc7dbf417e537a60f3d15113648", func := "proctor/proctorlaw6.ScanPlays", spec := "scanPlays", unfollowed := true, recurses := true, apart := false }
def ScanPlaysSaid : Prop := scanPlaysRow.holds Try.pinned (OpenSpec.ofChange scanPlaysSpec)

/-- ITS FALSE NEIGHBOUR: 'it returns false'. Refute it at one input. -/
def scanPlaysWrong : ChangeSpec := { name := "scanPlays", fn := fun _ => fun
  | [d1, d2, d3] => { results := [.lit (.bool false)], args := [d1, d2, d3] }
  | _ => none }
def ScanPlaysWrongFalsely : Prop := scanPlaysRow.holds Try.pinned (OpenSpec.ofChange scanPlaysWrong)

/-- 'proctorlaw6.ScanRest': WHATEVER THE INPUT: true; the input reads as it did. -/
def scanRestSpec : ChangeSpec := { name := "scanRest", fn := fun _ => fun
  | [d1, d2, d3] => { results := [.lit (.bool true)], args := [d1, d2, d3] }
  | _ => none }
def scanRestRow : OpenClaim := { program := "ytihepdnnafdkdaa", sum := "eaabb05740a186846e7724c9e0533c970122cdc7dbf417e537a60f3d15113648", func := "proctor/proctorlaw6.ScanRest", spec := "scanRest", unfollowed := true, recurses := true, apart := false }
def ScanRestSaid : Prop := scanRestRow.holds Try.pinned (OpenSpec.ofChange scanRestSpec)

/-- ITS FALSE NEIGHBOUR: 'it returns false'. Refute it at one input. -/
def scanRestWrong : ChangeSpec := { name := "scanRest", fn := fun _ => fun
  | [d1, d2, d3] => { results := [.lit (.bool false)], args := [d1, d2, d3] }
  | _ => none }
def ScanRestWrongFalsely : Prop := scanRestRow.holds Try.pinned (OpenSpec.ofChange scanRestWrong)

/-- 'proctorlaw6.ScanNames': WHATEVER THE INPUT: true; the input reads as it did. -/
def scanNamesSpec : ChangeSpec := { name := "scanNames", fn := fun _ => fun
  | [d1, d2] => { results := [.lit (.bool true)], args := [d1, d2] }
  | _ => none }
def scanNamesRow : OpenClaim := { program := "ytihepdnnafdkdaa", sum := "eaabb05740a186846e7724c9e0533c970122cdc7dbf417e537a60f3d15113648", func := "proctor/proctorlaw6.ScanNames", spec := "scanNames", unfollowed := true, recurses := true, apart := false }
def ScanNamesSaid : Prop := scanNamesRow.holds Try.pinned (OpenSpec.ofChange scanNamesSpec)

/-- ITS FALSE NEIGHBOUR: 'it returns false'. Refute it at one input. -/
def scanNamesWrong : ChangeSpec := { name := "scanNames", fn := fun _ => fun
  | [d1, d2] => { results := [.lit (.bool false)], args := [d1, d2] }
  | _ => none }
def ScanNamesWrongFalsely : Prop := scanNamesRow.holds Try.pinned (OpenSpec.ofChange scanNamesWrong)

/- THE SECOND FORM. 'bulk': how many values and letters a reading holds, each counted each time it is reached (what is shared counts as often as it is met; a slice's spare places count too). A statement '..UptoSaid' is the law's where the arguments, and the package variables that the reading takes, are together of bulk at most 1048576: NARROWER than '..Said'. Prove '..Said' where nothing that the law and all that it calls make is longer than what came in: it says more and counts as full. Else prove '..UptoSaid'. A law counts once. -/
mutual
def uptoBulk {H : Type} : DataW H → Nat
  | .lit (.string bytes) => bytes.length + 1
  | .lit _ => 1
  | .nil => 1
  | .ptr d => uptoBulk d + 1
  | .slice elems spare => uptoBulkAll elems + uptoBulkAll spare + 1
  | .agg parts => uptoBulkAll parts + 1
  | .iface _ d => uptoBulk d + 1
  | .map entries => uptoBulkEntries entries + 1
  | .held _ => 1
def uptoBulkAll {H : Type} : List (DataW H) → Nat
  | [] => 0
  | d :: r => uptoBulk d + uptoBulkAll r
def uptoBulkEntries {H : Type} : List (Lit × DataW H) → Nat
  | [] => 0
  | x :: r => uptoBulkEntry x + uptoBulkEntries r
def uptoBulkEntry {H : Type} : Lit × DataW H → Nat
  | (.string bytes, d) => bytes.length + uptoBulk d + 1
  | (_, d) => uptoBulk d + 1
 end
def uptoSmall : (H : Type) → List (DataW H) → Bool := fun _ ds => decide (uptoBulkAll ds ≤ 1048576)
def OpenSpec.upto (s : _root_.Go.ChangeSpec) : _root_.Go.OpenSpec := { _root_.Go.OpenSpec.ofChange s with cond := some uptoSmall }

/-- 'proctorlaw6.ScanWords', WHERE WHAT IT READS IS OF BULK AT MOST 1048576: true; the input reads as it did. -/
def scanWordsUptoRow : OpenClaim := { program := "ytihepdnnafdkdaa", sum := "eaabb05740a186846e7724c9e0533c970122cdc7dbf417e537a60f3d15113648", func := "proctor/proctorlaw6.ScanWords", spec := "scanWords", unfollowed := true, recurses := true, apart := false, narrowed := true }
def ScanWordsUptoSaid : Prop := scanWordsUptoRow.holds Try.pinned (OpenSpec.upto scanWordsSpec)

/-- 'proctorlaw6.ScanPlays', WHERE WHAT IT READS IS OF BULK AT MOST 1048576: true; the input reads as it did. -/
def scanPlaysUptoRow : OpenClaim := { program := "ytihepdnnafdkdaa", sum := "eaabb05740a186846e7724c9e0533c970122cdc7dbf417e537a60f3d15113648", func := "proctor/proctorlaw6.ScanPlays", spec := "scanPlays", unfollowed := true, recurses := true, apart := false, narrowed := true }
def ScanPlaysUptoSaid : Prop := scanPlaysUptoRow.holds Try.pinned (OpenSpec.upto scanPlaysSpec)

/-- 'proctorlaw6.ScanRest', WHERE WHAT IT READS IS OF BULK AT MOST 1048576: true; the input reads as it did. -/
def scanRestUptoRow : OpenClaim := { program := "ytihepdnnafdkdaa", sum := "eaabb05740a186846e7724c9e0533c970122cdc7dbf417e537a60f3d15113648", func := "proctor/proctorlaw6.ScanRest", spec := "scanRest", unfollowed := true, recurses := true, apart := false, narrowed := true }
def ScanRestUptoSaid : Prop := scanRestUptoRow.holds Try.pinned (OpenSpec.upto scanRestSpec)

/-- 'proctorlaw6.ScanNames', WHERE WHAT IT READS IS OF BULK AT MOST 1048576: true; the input reads as it did. -/
def scanNamesUptoRow : OpenClaim := { program := "ytihepdnnafdkdaa", sum := "eaabb05740a186846e7724c9e0533c970122cdc7dbf417e537a60f3d15113648", func := "proctor/proctorlaw6.ScanNames", spec := "scanNames", unfollowed := true, recurses := true, apart := false, narrowed := true }
def ScanNamesUptoSaid : Prop := scanNamesUptoRow.holds Try.pinned (OpenSpec.upto scanNamesSpec)

end Rows
end Go.Proofs.Ytihepdnnafdkdaa
