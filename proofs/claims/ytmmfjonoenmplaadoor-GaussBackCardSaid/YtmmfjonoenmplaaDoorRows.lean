/-
  NARROWER THAN 'FOR EVERY INPUT', by the rows' own cells (each row's printed sentence says how): GaussDivides: laid · GaussSums: laid · GaussRights: laid · GaussTurns: laid · GaussDivision: laid · GaussUnits: laid · GaussPowers: laid · GaussRing: laid · GaussTexts: laid · GaussBack: laid.
  DERIVED. THE GIVEN ROWS OF THIS SEAT. 10 by the template 'for every input the law returns true; each argument reads behind the call as it read before'; 0 by the template 'total and deterministic' (their statements: YtmmfjonoenmplaaDoorTotals.lean).
  GIVEN WITH THE SEED: the statements are not yours to turn. If you find one false, say at which input.
  Laid BY PROGRAM, IN A SANDBOX (cutbox-rows.mjs): the forced cells as the released guide's own fill.sh prints them over the translation b1859947de71c429… (all of the seat's roots in one cut). By AI agents, Wed Nov 11 2026. No macro, syntax, notation, axiom, sorry.
-/
import Derived.Test.YtmmfjonoenmplaaDoorChecked
import GoSem.Claim
import GoSem.ClaimJoined
import GoSem.ClaimMapViews
import Derived.JoinedTies
import Derived.KernelRfl
namespace Go.Proofs.YtmmfjonoenmplaaDoor
/- THE CELL 'sum', in the pinned program and in every row, IS THE sha256 OF THE DUMP (.gsa) THAT YtmmfjonoenmplaaDoorProg.lean LOADS. Nothing in Lean hashes anything: it is a label: what it is worth is what the hold of that sum in a sandbox is worth. -/
noncomputable def Tryd.pinned : Pinned := { name := "ytmmfjonoenmplaadoor", sum := "b1859947de71c42942f56e7bcd08087dea685857ab8e9f5ec4191f4f9992281c", checked := Tryd.checked }
namespace Rows
def none {H : Type} : Left H := { results := [], args := [] }

/- WHAT THE LISTED PACKAGE-LEVEL VARIABLES READ AS WHEN THE CALL BEGINS. Each datum BY PROGRAM (the guide's laid-datum.mjs) off the statement by which the dump's own 'gosem.cut.vars' lays the variable. In a bare row this is a premise. The card (YtmmfjonoenmplaaDoorCards.lean) ties it to the program's text. -/
def laid_math_bits_deBruijn32tab {H : Type} : DataW H := .agg [.lit (.int .u8 0), .lit (.int .u8 1), .lit (.int .u8 28), .lit (.int .u8 2), .lit (.int .u8 29), .lit (.int .u8 14), .lit (.int .u8 24), .lit (.int .u8 3), .lit (.int .u8 30), .lit (.int .u8 22), .lit (.int .u8 20), .lit (.int .u8 15), .lit (.int .u8 25), .lit (.int .u8 17), .lit (.int .u8 4), .lit (.int .u8 8), .lit (.int .u8 31), .lit (.int .u8 27), .lit (.int .u8 13), .lit (.int .u8 23), .lit (.int .u8 21), .lit (.int .u8 19), .lit (.int .u8 16), .lit (.int .u8 7), .lit (.int .u8 26), .lit (.int .u8 12), .lit (.int .u8 18), .lit (.int .u8 6), .lit (.int .u8 11), .lit (.int .u8 5), .lit (.int .u8 10), .lit (.int .u8 9)]
def laid_math_bits_deBruijn64tab {H : Type} : DataW H := .agg [.lit (.int .u8 0), .lit (.int .u8 1), .lit (.int .u8 56), .lit (.int .u8 2), .lit (.int .u8 57), .lit (.int .u8 49), .lit (.int .u8 28), .lit (.int .u8 3), .lit (.int .u8 61), .lit (.int .u8 58), .lit (.int .u8 42), .lit (.int .u8 50), .lit (.int .u8 38), .lit (.int .u8 29), .lit (.int .u8 17), .lit (.int .u8 4), .lit (.int .u8 62), .lit (.int .u8 47), .lit (.int .u8 59), .lit (.int .u8 36), .lit (.int .u8 45), .lit (.int .u8 43), .lit (.int .u8 51), .lit (.int .u8 22), .lit (.int .u8 53), .lit (.int .u8 39), .lit (.int .u8 33), .lit (.int .u8 30), .lit (.int .u8 24), .lit (.int .u8 18), .lit (.int .u8 12), .lit (.int .u8 5), .lit (.int .u8 63), .lit (.int .u8 55), .lit (.int .u8 48), .lit (.int .u8 27), .lit (.int .u8 60), .lit (.int .u8 41), .lit (.int .u8 37), .lit (.int .u8 16), .lit (.int .u8 46), .lit (.int .u8 35), .lit (.int .u8 44), .lit (.int .u8 21), .lit (.int .u8 52), .lit (.int .u8 32), .lit (.int .u8 23), .lit (.int .u8 11), .lit (.int .u8 54), .lit (.int .u8 26), .lit (.int .u8 40), .lit (.int .u8 15), .lit (.int .u8 34), .lit (.int .u8 20), .lit (.int .u8 31), .lit (.int .u8 10), .lit (.int .u8 25), .lit (.int .u8 14), .lit (.int .u8 19), .lit (.int .u8 9), .lit (.int .u8 13), .lit (.int .u8 8), .lit (.int .u8 7), .lit (.int .u8 6)]
def laid_internal_strconv_uint64pow10 {H : Type} : DataW H := .agg [.lit (.int .u64 1), .lit (.int .u64 10), .lit (.int .u64 100), .lit (.int .u64 1000), .lit (.int .u64 10000), .lit (.int .u64 100000), .lit (.int .u64 1000000), .lit (.int .u64 10000000), .lit (.int .u64 100000000), .lit (.int .u64 1000000000), .lit (.int .u64 10000000000), .lit (.int .u64 100000000000), .lit (.int .u64 1000000000000), .lit (.int .u64 10000000000000), .lit (.int .u64 100000000000000), .lit (.int .u64 1000000000000000), .lit (.int .u64 10000000000000000), .lit (.int .u64 100000000000000000), .lit (.int .u64 1000000000000000000), .lit (.int .u64 10000000000000000000)]
def laid_strconv_ErrRange {H : Type} : DataW H := .iface "*errors.errorString" (.ptr (.agg [.lit (.string [118, 97, 108, 117, 101, 32, 111, 117, 116, 32, 111, 102, 32, 114, 97, 110, 103, 101])]))
def laid_strconv_ErrSyntax {H : Type} : DataW H := .iface "*errors.errorString" (.ptr (.agg [.lit (.string [105, 110, 118, 97, 108, 105, 100, 32, 115, 121, 110, 116, 97, 120])]))

/-- 'proctorlaw2.GaussDivides': WHATEVER THE INPUT: true; the input reads as it did. -/
def gaussDividesSpec : ChangeSpec := { name := "gaussDivides", fn := fun _ => fun
  | [d1, d2, d3, d4] => { results := [.lit (.bool true)], args := [d1, d2, d3, d4] }
  | _ => none }
def gaussDividesRow : OpenClaim := { program := "ytmmfjonoenmplaadoor", sum := "b1859947de71c42942f56e7bcd08087dea685857ab8e9f5ec4191f4f9992281c", func := "proctor/proctorlaw2.GaussDivides", spec := "gaussDivides", inPlace := ["math.archTrunc", "math.Float64bits", "math.Float64frombits", "internal/reflectlite.TypeOf"], unfollowed := true, recurses := true, named := ["internal/strconv.uint64pow10", "math/bits.deBruijn32tab", "math/bits.deBruijn64tab"], apart := false, laid := [("math/bits.deBruijn32tab", laid_math_bits_deBruijn32tab), ("math/bits.deBruijn64tab", laid_math_bits_deBruijn64tab), ("internal/strconv.uint64pow10", laid_internal_strconv_uint64pow10)] }
def GaussDividesSaid : Prop := gaussDividesRow.holds Tryd.pinned (OpenSpec.ofChange gaussDividesSpec)

/-- ITS FALSE NEIGHBOUR: 'it returns false'. Refute it at one input. -/
def gaussDividesWrong : ChangeSpec := { name := "gaussDivides", fn := fun _ => fun
  | [d1, d2, d3, d4] => { results := [.lit (.bool false)], args := [d1, d2, d3, d4] }
  | _ => none }
def GaussDividesWrongFalsely : Prop := gaussDividesRow.holds Tryd.pinned (OpenSpec.ofChange gaussDividesWrong)

/-- 'proctorlaw2.GaussSums': WHATEVER THE INPUT: true; the input reads as it did. -/
def gaussSumsSpec : ChangeSpec := { name := "gaussSums", fn := fun _ => fun
  | [d1, d2, d3, d4] => { results := [.lit (.bool true)], args := [d1, d2, d3, d4] }
  | _ => none }
def gaussSumsRow : OpenClaim := { program := "ytmmfjonoenmplaadoor", sum := "b1859947de71c42942f56e7bcd08087dea685857ab8e9f5ec4191f4f9992281c", func := "proctor/proctorlaw2.GaussSums", spec := "gaussSums", inPlace := ["math.archTrunc", "math.Float64bits", "math.Float64frombits", "internal/reflectlite.TypeOf"], unfollowed := true, recurses := true, named := ["internal/strconv.uint64pow10", "math/bits.deBruijn32tab", "math/bits.deBruijn64tab"], apart := false, laid := [("math/bits.deBruijn32tab", laid_math_bits_deBruijn32tab), ("math/bits.deBruijn64tab", laid_math_bits_deBruijn64tab), ("internal/strconv.uint64pow10", laid_internal_strconv_uint64pow10)] }
def GaussSumsSaid : Prop := gaussSumsRow.holds Tryd.pinned (OpenSpec.ofChange gaussSumsSpec)

/-- ITS FALSE NEIGHBOUR: 'it returns false'. Refute it at one input. -/
def gaussSumsWrong : ChangeSpec := { name := "gaussSums", fn := fun _ => fun
  | [d1, d2, d3, d4] => { results := [.lit (.bool false)], args := [d1, d2, d3, d4] }
  | _ => none }
def GaussSumsWrongFalsely : Prop := gaussSumsRow.holds Tryd.pinned (OpenSpec.ofChange gaussSumsWrong)

/-- 'proctorlaw2.GaussRights': WHATEVER THE INPUT: true; the input reads as it did. -/
def gaussRightsSpec : ChangeSpec := { name := "gaussRights", fn := fun _ => fun
  | [d1, d2, d3, d4] => { results := [.lit (.bool true)], args := [d1, d2, d3, d4] }
  | _ => none }
def gaussRightsRow : OpenClaim := { program := "ytmmfjonoenmplaadoor", sum := "b1859947de71c42942f56e7bcd08087dea685857ab8e9f5ec4191f4f9992281c", func := "proctor/proctorlaw2.GaussRights", spec := "gaussRights", inPlace := ["math.archTrunc", "math.Float64bits", "math.Float64frombits", "internal/reflectlite.TypeOf"], unfollowed := true, recurses := true, named := ["internal/strconv.uint64pow10", "math/bits.deBruijn32tab", "math/bits.deBruijn64tab"], apart := false, laid := [("math/bits.deBruijn32tab", laid_math_bits_deBruijn32tab), ("math/bits.deBruijn64tab", laid_math_bits_deBruijn64tab), ("internal/strconv.uint64pow10", laid_internal_strconv_uint64pow10)] }
def GaussRightsSaid : Prop := gaussRightsRow.holds Tryd.pinned (OpenSpec.ofChange gaussRightsSpec)

/-- ITS FALSE NEIGHBOUR: 'it returns false'. Refute it at one input. -/
def gaussRightsWrong : ChangeSpec := { name := "gaussRights", fn := fun _ => fun
  | [d1, d2, d3, d4] => { results := [.lit (.bool false)], args := [d1, d2, d3, d4] }
  | _ => none }
def GaussRightsWrongFalsely : Prop := gaussRightsRow.holds Tryd.pinned (OpenSpec.ofChange gaussRightsWrong)

/-- 'proctorlaw2.GaussTurns': WHATEVER THE INPUT: true; the input reads as it did. -/
def gaussTurnsSpec : ChangeSpec := { name := "gaussTurns", fn := fun _ => fun
  | [d1, d2, d3] => { results := [.lit (.bool true)], args := [d1, d2, d3] }
  | _ => none }
def gaussTurnsRow : OpenClaim := { program := "ytmmfjonoenmplaadoor", sum := "b1859947de71c42942f56e7bcd08087dea685857ab8e9f5ec4191f4f9992281c", func := "proctor/proctorlaw2.GaussTurns", spec := "gaussTurns", inPlace := ["math.archTrunc", "math.Float64bits", "math.Float64frombits", "internal/reflectlite.TypeOf"], unfollowed := true, recurses := true, named := ["internal/strconv.uint64pow10", "math/bits.deBruijn32tab", "math/bits.deBruijn64tab"], apart := false, laid := [("math/bits.deBruijn32tab", laid_math_bits_deBruijn32tab), ("math/bits.deBruijn64tab", laid_math_bits_deBruijn64tab), ("internal/strconv.uint64pow10", laid_internal_strconv_uint64pow10)] }
def GaussTurnsSaid : Prop := gaussTurnsRow.holds Tryd.pinned (OpenSpec.ofChange gaussTurnsSpec)

/-- ITS FALSE NEIGHBOUR: 'it returns false'. Refute it at one input. -/
def gaussTurnsWrong : ChangeSpec := { name := "gaussTurns", fn := fun _ => fun
  | [d1, d2, d3] => { results := [.lit (.bool false)], args := [d1, d2, d3] }
  | _ => none }
def GaussTurnsWrongFalsely : Prop := gaussTurnsRow.holds Tryd.pinned (OpenSpec.ofChange gaussTurnsWrong)

/-- 'proctorlaw2.GaussDivision': WHATEVER THE INPUT: true; the input reads as it did. -/
def gaussDivisionSpec : ChangeSpec := { name := "gaussDivision", fn := fun _ => fun
  | [d1, d2, d3] => { results := [.lit (.bool true)], args := [d1, d2, d3] }
  | _ => none }
def gaussDivisionRow : OpenClaim := { program := "ytmmfjonoenmplaadoor", sum := "b1859947de71c42942f56e7bcd08087dea685857ab8e9f5ec4191f4f9992281c", func := "proctor/proctorlaw2.GaussDivision", spec := "gaussDivision", inPlace := ["math.archTrunc", "math.Float64bits", "math.Float64frombits", "internal/reflectlite.TypeOf"], unfollowed := true, recurses := true, named := ["internal/strconv.uint64pow10", "math/bits.deBruijn32tab", "math/bits.deBruijn64tab"], apart := false, laid := [("math/bits.deBruijn32tab", laid_math_bits_deBruijn32tab), ("math/bits.deBruijn64tab", laid_math_bits_deBruijn64tab), ("internal/strconv.uint64pow10", laid_internal_strconv_uint64pow10)] }
def GaussDivisionSaid : Prop := gaussDivisionRow.holds Tryd.pinned (OpenSpec.ofChange gaussDivisionSpec)

/-- ITS FALSE NEIGHBOUR: 'it returns false'. Refute it at one input. -/
def gaussDivisionWrong : ChangeSpec := { name := "gaussDivision", fn := fun _ => fun
  | [d1, d2, d3] => { results := [.lit (.bool false)], args := [d1, d2, d3] }
  | _ => none }
def GaussDivisionWrongFalsely : Prop := gaussDivisionRow.holds Tryd.pinned (OpenSpec.ofChange gaussDivisionWrong)

/-- 'proctorlaw2.GaussUnits': WHATEVER THE INPUT: true; the input reads as it did. -/
def gaussUnitsSpec : ChangeSpec := { name := "gaussUnits", fn := fun _ => fun
  | [d1, d2, d3, d4] => { results := [.lit (.bool true)], args := [d1, d2, d3, d4] }
  | _ => none }
def gaussUnitsRow : OpenClaim := { program := "ytmmfjonoenmplaadoor", sum := "b1859947de71c42942f56e7bcd08087dea685857ab8e9f5ec4191f4f9992281c", func := "proctor/proctorlaw2.GaussUnits", spec := "gaussUnits", inPlace := ["math.archTrunc", "math.Float64bits", "math.Float64frombits", "internal/reflectlite.TypeOf"], unfollowed := true, recurses := true, named := ["internal/strconv.uint64pow10", "math/bits.deBruijn32tab", "math/bits.deBruijn64tab"], apart := false, laid := [("math/bits.deBruijn32tab", laid_math_bits_deBruijn32tab), ("math/bits.deBruijn64tab", laid_math_bits_deBruijn64tab), ("internal/strconv.uint64pow10", laid_internal_strconv_uint64pow10)] }
def GaussUnitsSaid : Prop := gaussUnitsRow.holds Tryd.pinned (OpenSpec.ofChange gaussUnitsSpec)

/-- ITS FALSE NEIGHBOUR: 'it returns false'. Refute it at one input. -/
def gaussUnitsWrong : ChangeSpec := { name := "gaussUnits", fn := fun _ => fun
  | [d1, d2, d3, d4] => { results := [.lit (.bool false)], args := [d1, d2, d3, d4] }
  | _ => none }
def GaussUnitsWrongFalsely : Prop := gaussUnitsRow.holds Tryd.pinned (OpenSpec.ofChange gaussUnitsWrong)

/-- 'proctorlaw2.GaussPowers': WHATEVER THE INPUT: true; the input reads as it did. -/
def gaussPowersSpec : ChangeSpec := { name := "gaussPowers", fn := fun _ => fun
  | [d1, d2, d3] => { results := [.lit (.bool true)], args := [d1, d2, d3] }
  | _ => none }
def gaussPowersRow : OpenClaim := { program := "ytmmfjonoenmplaadoor", sum := "b1859947de71c42942f56e7bcd08087dea685857ab8e9f5ec4191f4f9992281c", func := "proctor/proctorlaw2.GaussPowers", spec := "gaussPowers", inPlace := ["math.archTrunc", "math.Float64bits", "math.Float64frombits", "internal/reflectlite.TypeOf"], unfollowed := true, recurses := true, named := ["internal/strconv.uint64pow10", "math/bits.deBruijn32tab", "math/bits.deBruijn64tab"], apart := false, laid := [("math/bits.deBruijn32tab", laid_math_bits_deBruijn32tab), ("math/bits.deBruijn64tab", laid_math_bits_deBruijn64tab), ("internal/strconv.uint64pow10", laid_internal_strconv_uint64pow10)] }
def GaussPowersSaid : Prop := gaussPowersRow.holds Tryd.pinned (OpenSpec.ofChange gaussPowersSpec)

/-- ITS FALSE NEIGHBOUR: 'it returns false'. Refute it at one input. -/
def gaussPowersWrong : ChangeSpec := { name := "gaussPowers", fn := fun _ => fun
  | [d1, d2, d3] => { results := [.lit (.bool false)], args := [d1, d2, d3] }
  | _ => none }
def GaussPowersWrongFalsely : Prop := gaussPowersRow.holds Tryd.pinned (OpenSpec.ofChange gaussPowersWrong)

/-- 'proctorlaw2.GaussRing': WHATEVER THE INPUT: true; the input reads as it did. -/
def gaussRingSpec : ChangeSpec := { name := "gaussRing", fn := fun _ => fun
  | [d1, d2, d3, d4] => { results := [.lit (.bool true)], args := [d1, d2, d3, d4] }
  | _ => none }
def gaussRingRow : OpenClaim := { program := "ytmmfjonoenmplaadoor", sum := "b1859947de71c42942f56e7bcd08087dea685857ab8e9f5ec4191f4f9992281c", func := "proctor/proctorlaw2.GaussRing", spec := "gaussRing", inPlace := ["math.archTrunc", "math.Float64bits", "math.Float64frombits", "internal/reflectlite.TypeOf"], unfollowed := true, recurses := true, named := ["internal/strconv.uint64pow10", "math/bits.deBruijn32tab", "math/bits.deBruijn64tab"], apart := false, laid := [("math/bits.deBruijn32tab", laid_math_bits_deBruijn32tab), ("math/bits.deBruijn64tab", laid_math_bits_deBruijn64tab), ("internal/strconv.uint64pow10", laid_internal_strconv_uint64pow10)] }
def GaussRingSaid : Prop := gaussRingRow.holds Tryd.pinned (OpenSpec.ofChange gaussRingSpec)

/-- ITS FALSE NEIGHBOUR: 'it returns false'. Refute it at one input. -/
def gaussRingWrong : ChangeSpec := { name := "gaussRing", fn := fun _ => fun
  | [d1, d2, d3, d4] => { results := [.lit (.bool false)], args := [d1, d2, d3, d4] }
  | _ => none }
def GaussRingWrongFalsely : Prop := gaussRingRow.holds Tryd.pinned (OpenSpec.ofChange gaussRingWrong)

/-- 'proctorlaw2.GaussTexts': WHATEVER THE INPUT: true; the input reads as it did. -/
def gaussTextsSpec : ChangeSpec := { name := "gaussTexts", fn := fun _ => fun
  | [d1, d2, d3] => { results := [.lit (.bool true)], args := [d1, d2, d3] }
  | _ => none }
def gaussTextsRow : OpenClaim := { program := "ytmmfjonoenmplaadoor", sum := "b1859947de71c42942f56e7bcd08087dea685857ab8e9f5ec4191f4f9992281c", func := "proctor/proctorlaw2.GaussTexts", spec := "gaussTexts", inPlace := ["math.archTrunc", "math.Float64bits", "math.Float64frombits", "internal/reflectlite.TypeOf"], unfollowed := true, recurses := true, named := ["internal/strconv.uint64pow10", "math/bits.deBruijn32tab", "math/bits.deBruijn64tab", "strconv.ErrRange", "strconv.ErrSyntax"], apart := false, laid := [("math/bits.deBruijn32tab", laid_math_bits_deBruijn32tab), ("math/bits.deBruijn64tab", laid_math_bits_deBruijn64tab), ("internal/strconv.uint64pow10", laid_internal_strconv_uint64pow10), ("strconv.ErrRange", laid_strconv_ErrRange), ("strconv.ErrSyntax", laid_strconv_ErrSyntax)] }
def GaussTextsSaid : Prop := gaussTextsRow.holds Tryd.pinned (OpenSpec.ofChange gaussTextsSpec)

/-- ITS FALSE NEIGHBOUR: 'it returns false'. Refute it at one input. -/
def gaussTextsWrong : ChangeSpec := { name := "gaussTexts", fn := fun _ => fun
  | [d1, d2, d3] => { results := [.lit (.bool false)], args := [d1, d2, d3] }
  | _ => none }
def GaussTextsWrongFalsely : Prop := gaussTextsRow.holds Tryd.pinned (OpenSpec.ofChange gaussTextsWrong)

/-- 'proctorlaw2.GaussBack': WHATEVER THE INPUT: true; the input reads as it did. -/
def gaussBackSpec : ChangeSpec := { name := "gaussBack", fn := fun _ => fun
  | [d1, d2, d3] => { results := [.lit (.bool true)], args := [d1, d2, d3] }
  | _ => none }
def gaussBackRow : OpenClaim := { program := "ytmmfjonoenmplaadoor", sum := "b1859947de71c42942f56e7bcd08087dea685857ab8e9f5ec4191f4f9992281c", func := "proctor/proctorlaw2.GaussBack", spec := "gaussBack", inPlace := ["math.archTrunc", "math.Float64bits", "math.Float64frombits", "internal/reflectlite.TypeOf"], unfollowed := true, recurses := true, named := ["internal/strconv.uint64pow10", "math/bits.deBruijn32tab", "math/bits.deBruijn64tab", "strconv.ErrRange", "strconv.ErrSyntax"], apart := false, laid := [("math/bits.deBruijn32tab", laid_math_bits_deBruijn32tab), ("math/bits.deBruijn64tab", laid_math_bits_deBruijn64tab), ("internal/strconv.uint64pow10", laid_internal_strconv_uint64pow10), ("strconv.ErrRange", laid_strconv_ErrRange), ("strconv.ErrSyntax", laid_strconv_ErrSyntax)] }
def GaussBackSaid : Prop := gaussBackRow.holds Tryd.pinned (OpenSpec.ofChange gaussBackSpec)

/-- ITS FALSE NEIGHBOUR: 'it returns false'. Refute it at one input. -/
def gaussBackWrong : ChangeSpec := { name := "gaussBack", fn := fun _ => fun
  | [d1, d2, d3] => { results := [.lit (.bool false)], args := [d1, d2, d3] }
  | _ => none }
def GaussBackWrongFalsely : Prop := gaussBackRow.holds Tryd.pinned (OpenSpec.ofChange gaussBackWrong)

/- THE SECOND FORM. 'bulk': how many values and letters a reading holds, each counted each time it is reached (what is shared counts as often as it is met; a slice's spare places count too). A statement '..UptoSaid' is the law's where the arguments, and the package variables that the reading takes, are together of bulk at most 1048576: NARROWER than '..Said'. Prove '..Said' where nothing that the law and all that it calls make is longer than what came in: it says more and counts as full. Else prove '..UptoSaid'. A law counts once. -/
mutual
def uptoBulk {H : Type} : DataW H → Nat
  | .lit (.string bytes) => bytes.length + 1
  | .lit _ => 1
  | .nil => 1
  | .ptr d => uptoBulk d + 1
  | .slice elems spare => uptoBulkAll elems + uptoBulkAll spare + 1
  | .agg parts => uptoBulkAll parts + 1
  | .iface _ d => uptoBulk d + 1
  | .map entries => uptoBulkEntries entries + 1
  | .held _ => 1
def uptoBulkAll {H : Type} : List (DataW H) → Nat
  | [] => 0
  | d :: r => uptoBulk d + uptoBulkAll r
def uptoBulkEntries {H : Type} : List (Lit × DataW H) → Nat
  | [] => 0
  | x :: r => uptoBulkEntry x + uptoBulkEntries r
def uptoBulkEntry {H : Type} : Lit × DataW H → Nat
  | (.string bytes, d) => bytes.length + uptoBulk d + 1
  | (_, d) => uptoBulk d + 1
 end
def uptoSmall : (H : Type) → List (DataW H) → Bool := fun _ ds => decide (uptoBulkAll ds ≤ 1048576)
def OpenSpec.upto (s : _root_.Go.ChangeSpec) : _root_.Go.OpenSpec := { _root_.Go.OpenSpec.ofChange s with cond := some uptoSmall }

/-- 'proctorlaw2.GaussDivides', WHERE WHAT IT READS IS OF BULK AT MOST 1048576: true; the input reads as it did. -/
def gaussDividesUptoRow : OpenClaim := { program := "ytmmfjonoenmplaadoor", sum := "b1859947de71c42942f56e7bcd08087dea685857ab8e9f5ec4191f4f9992281c", func := "proctor/proctorlaw2.GaussDivides", spec := "gaussDivides", inPlace := ["math.archTrunc", "math.Float64bits", "math.Float64frombits", "internal/reflectlite.TypeOf"], unfollowed := true, recurses := true, named := ["internal/strconv.uint64pow10", "math/bits.deBruijn32tab", "math/bits.deBruijn64tab"], apart := false, laid := [("math/bits.deBruijn32tab", laid_math_bits_deBruijn32tab), ("math/bits.deBruijn64tab", laid_math_bits_deBruijn64tab), ("internal/strconv.uint64pow10", laid_internal_strconv_uint64pow10)], narrowed := true }
def GaussDividesUptoSaid : Prop := gaussDividesUptoRow.holds Tryd.pinned (OpenSpec.upto gaussDividesSpec)

/-- 'proctorlaw2.GaussSums', WHERE WHAT IT READS IS OF BULK AT MOST 1048576: true; the input reads as it did. -/
def gaussSumsUptoRow : OpenClaim := { program := "ytmmfjonoenmplaadoor", sum := "b1859947de71c42942f56e7bcd08087dea685857ab8e9f5ec4191f4f9992281c", func := "proctor/proctorlaw2.GaussSums", spec := "gaussSums", inPlace := ["math.archTrunc", "math.Float64bits", "math.Float64frombits", "internal/reflectlite.TypeOf"], unfollowed := true, recurses := true, named := ["internal/strconv.uint64pow10", "math/bits.deBruijn32tab", "math/bits.deBruijn64tab"], apart := false, laid := [("math/bits.deBruijn32tab", laid_math_bits_deBruijn32tab), ("math/bits.deBruijn64tab", laid_math_bits_deBruijn64tab), ("internal/strconv.uint64pow10", laid_internal_strconv_uint64pow10)], narrowed := true }
def GaussSumsUptoSaid : Prop := gaussSumsUptoRow.holds Tryd.pinned (OpenSpec.upto gaussSumsSpec)

/-- 'proctorlaw2.GaussRights', WHERE WHAT IT READS IS OF BULK AT MOST 1048576: true; the input reads as it did. -/
def gaussRightsUptoRow : OpenClaim := { program := "ytmmfjonoenmplaadoor", sum := "b1859947de71c42942f56e7bcd08087dea685857ab8e9f5ec4191f4f9992281c", func := "proctor/proctorlaw2.GaussRights", spec := "gaussRights", inPlace := ["math.archTrunc", "math.Float64bits", "math.Float64frombits", "internal/reflectlite.TypeOf"], unfollowed := true, recurses := true, named := ["internal/strconv.uint64pow10", "math/bits.deBruijn32tab", "math/bits.deBruijn64tab"], apart := false, laid := [("math/bits.deBruijn32tab", laid_math_bits_deBruijn32tab), ("math/bits.deBruijn64tab", laid_math_bits_deBruijn64tab), ("internal/strconv.uint64pow10", laid_internal_strconv_uint64pow10)], narrowed := true }
def GaussRightsUptoSaid : Prop := gaussRightsUptoRow.holds Tryd.pinned (OpenSpec.upto gaussRightsSpec)

/-- 'proctorlaw2.GaussTurns', WHERE WHAT IT READS IS OF BULK AT MOST 1048576: true; the input reads as it did. -/
def gaussTurnsUptoRow : OpenClaim := { program := "ytmmfjonoenmplaadoor", sum := "b1859947de71c42942f56e7bcd08087dea685857ab8e9f5ec4191f4f9992281c", func := "proctor/proctorlaw2.GaussTurns", spec := "gaussTurns", inPlace := ["math.archTrunc", "math.Float64bits", "math.Float64frombits", "internal/reflectlite.TypeOf"], unfollowed := true, recurses := true, named := ["internal/strconv.uint64pow10", "math/bits.deBruijn32tab", "math/bits.deBruijn64tab"], apart := false, laid := [("math/bits.deBruijn32tab", laid_math_bits_deBruijn32tab), ("math/bits.deBruijn64tab", laid_math_bits_deBruijn64tab), ("internal/strconv.uint64pow10", laid_internal_strconv_uint64pow10)], narrowed := true }
def GaussTurnsUptoSaid : Prop := gaussTurnsUptoRow.holds Tryd.pinned (OpenSpec.upto gaussTurnsSpec)

/-- 'proctorlaw2.GaussDivision', WHERE WHAT IT READS IS OF BULK AT MOST 1048576: true; the input reads as it did. -/
def gaussDivisionUptoRow : OpenClaim := { program := "ytmmfjonoenmplaadoor", sum := "b1859947de71c42942f56e7bcd08087dea685857ab8e9f5ec4191f4f9992281c", func := "proctor/proctorlaw2.GaussDivision", spec := "gaussDivision", inPlace := ["math.archTrunc", "math.Float64bits", "math.Float64frombits", "internal/reflectlite.TypeOf"], unfollowed := true, recurses := true, named := ["internal/strconv.uint64pow10", "math/bits.deBruijn32tab", "math/bits.deBruijn64tab"], apart := false, laid := [("math/bits.deBruijn32tab", laid_math_bits_deBruijn32tab), ("math/bits.deBruijn64tab", laid_math_bits_deBruijn64tab), ("internal/strconv.uint64pow10", laid_internal_strconv_uint64pow10)], narrowed := true }
def GaussDivisionUptoSaid : Prop := gaussDivisionUptoRow.holds Tryd.pinned (OpenSpec.upto gaussDivisionSpec)

/-- 'proctorlaw2.GaussUnits', WHERE WHAT IT READS IS OF BULK AT MOST 1048576: true; the input reads as it did. -/
def gaussUnitsUptoRow : OpenClaim := { program := "ytmmfjonoenmplaadoor", sum := "b1859947de71c42942f56e7bcd08087dea685857ab8e9f5ec4191f4f9992281c", func := "proctor/proctorlaw2.GaussUnits", spec := "gaussUnits", inPlace := ["math.archTrunc", "math.Float64bits", "math.Float64frombits", "internal/reflectlite.TypeOf"], unfollowed := true, recurses := true, named := ["internal/strconv.uint64pow10", "math/bits.deBruijn32tab", "math/bits.deBruijn64tab"], apart := false, laid := [("math/bits.deBruijn32tab", laid_math_bits_deBruijn32tab), ("math/bits.deBruijn64tab", laid_math_bits_deBruijn64tab), ("internal/strconv.uint64pow10", laid_internal_strconv_uint64pow10)], narrowed := true }
def GaussUnitsUptoSaid : Prop := gaussUnitsUptoRow.holds Tryd.pinned (OpenSpec.upto gaussUnitsSpec)

/-- 'proctorlaw2.GaussPowers', WHERE WHAT IT READS IS OF BULK AT MOST 1048576: true; the input reads as it did. -/
def gaussPowersUptoRow : OpenClaim := { program := "ytmmfjonoenmplaadoor", sum := "b1859947de71c42942f56e7bcd08087dea685857ab8e9f5ec4191f4f9992281c", func := "proctor/proctorlaw2.GaussPowers", spec := "gaussPowers", inPlace := ["math.archTrunc", "math.Float64bits", "math.Float64frombits", "internal/reflectlite.TypeOf"], unfollowed := true, recurses := true, named := ["internal/strconv.uint64pow10", "math/bits.deBruijn32tab", "math/bits.deBruijn64tab"], apart := false, laid := [("math/bits.deBruijn32tab", laid_math_bits_deBruijn32tab), ("math/bits.deBruijn64tab", laid_math_bits_deBruijn64tab), ("internal/strconv.uint64pow10", laid_internal_strconv_uint64pow10)], narrowed := true }
def GaussPowersUptoSaid : Prop := gaussPowersUptoRow.holds Tryd.pinned (OpenSpec.upto gaussPowersSpec)

/-- 'proctorlaw2.GaussRing', WHERE WHAT IT READS IS OF BULK AT MOST 1048576: true; the input reads as it did. -/
def gaussRingUptoRow : OpenClaim := { program := "ytmmfjonoenmplaadoor", sum := "b1859947de71c42942f56e7bcd08087dea685857ab8e9f5ec4191f4f9992281c", func := "proctor/proctorlaw2.GaussRing", spec := "gaussRing", inPlace := ["math.archTrunc", "math.Float64bits", "math.Float64frombits", "internal/reflectlite.TypeOf"], unfollowed := true, recurses := true, named := ["internal/strconv.uint64pow10", "math/bits.deBruijn32tab", "math/bits.deBruijn64tab"], apart := false, laid := [("math/bits.deBruijn32tab", laid_math_bits_deBruijn32tab), ("math/bits.deBruijn64tab", laid_math_bits_deBruijn64tab), ("internal/strconv.uint64pow10", laid_internal_strconv_uint64pow10)], narrowed := true }
def GaussRingUptoSaid : Prop := gaussRingUptoRow.holds Tryd.pinned (OpenSpec.upto gaussRingSpec)

/-- 'proctorlaw2.GaussTexts', WHERE WHAT IT READS IS OF BULK AT MOST 1048576: true; the input reads as it did. -/
def gaussTextsUptoRow : OpenClaim := { program := "ytmmfjonoenmplaadoor", sum := "b1859947de71c42942f56e7bcd08087dea685857ab8e9f5ec4191f4f9992281c", func := "proctor/proctorlaw2.GaussTexts", spec := "gaussTexts", inPlace := ["math.archTrunc", "math.Float64bits", "math.Float64frombits", "internal/reflectlite.TypeOf"], unfollowed := true, recurses := true, named := ["internal/strconv.uint64pow10", "math/bits.deBruijn32tab", "math/bits.deBruijn64tab", "strconv.ErrRange", "strconv.ErrSyntax"], apart := false, laid := [("math/bits.deBruijn32tab", laid_math_bits_deBruijn32tab), ("math/bits.deBruijn64tab", laid_math_bits_deBruijn64tab), ("internal/strconv.uint64pow10", laid_internal_strconv_uint64pow10), ("strconv.ErrRange", laid_strconv_ErrRange), ("strconv.ErrSyntax", laid_strconv_ErrSyntax)], narrowed := true }
def GaussTextsUptoSaid : Prop := gaussTextsUptoRow.holds Tryd.pinned (OpenSpec.upto gaussTextsSpec)

/-- 'proctorlaw2.GaussBack', WHERE WHAT IT READS IS OF BULK AT MOST 1048576: true; the input reads as it did. -/
def gaussBackUptoRow : OpenClaim := { program := "ytmmfjonoenmplaadoor", sum := "b1859947de71c42942f56e7bcd08087dea685857ab8e9f5ec4191f4f9992281c", func := "proctor/proctorlaw2.GaussBack", spec := "gaussBack", inPlace := ["math.archTrunc", "math.Float64bits", "math.Float64frombits", "internal/reflectlite.TypeOf"], unfollowed := true, recurses := true, named := ["internal/strconv.uint64pow10", "math/bits.deBruijn32tab", "math/bits.deBruijn64tab", "strconv.ErrRange", "strconv.ErrSyntax"], apart := false, laid := [("math/bits.deBruijn32tab", laid_math_bits_deBruijn32tab), ("math/bits.deBruijn64tab", laid_math_bits_deBruijn64tab), ("internal/strconv.uint64pow10", laid_internal_strconv_uint64pow10), ("strconv.ErrRange", laid_strconv_ErrRange), ("strconv.ErrSyntax", laid_strconv_ErrSyntax)], narrowed := true }
def GaussBackUptoSaid : Prop := gaussBackUptoRow.holds Tryd.pinned (OpenSpec.upto gaussBackSpec)

end Rows
end Go.Proofs.YtmmfjonoenmplaaDoor
