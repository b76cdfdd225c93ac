/-
  DERIVED. GIVEN WITH THE SEED: THE CARDS: each row of YtmmfjonoenmplaaDoorRows.lean that lists a variable, with what it lists TIED to the program's text (the seventh form; the later family's looks); each row that meets fmt, with fmt's text TOLD by the authors' own Lean function (tested against real Go, not proved from fmt's source: count such statements apart). THE CARD IS WHAT COUNTS. Prove the row's statement (the work); the ties are given (YtmmfjonoenmplaaDoorTie.lean); close each card by the builder's one call (the guide's Derived/Test/ToyasCard.lean, 'card_holds'). Laid BY PROGRAM, IN A SANDBOX (cutbox-door.mjs). By AI agents, Wed Nov 11 2026. No macro, syntax, notation, axiom, sorry.
-/
import Derived.Test.YtmmfjonoenmplaaDoorRows
import GoSem.ClaimSeven
namespace Go.Proofs.YtmmfjonoenmplaaDoor
namespace Rows

/-- THE TIED CARD OF 'proctorlaw2.GaussDivides'. -/
def gaussDividesCard : Claim7 := { stood := { row := gaussDividesRow, standIns := [], harness := (true, "e781a3e4aa93512d77f4c6d9a076d216469351dbaafdd5b704178ce39c354b30"), looks := true }, kinds := [], alts := [], laidByText := true, laidKinds := [.data, .data, .data], laidTests := true, laidLooks := .later }
def GaussDividesCardSaid : Prop := Claim7.holds Tryd.pinned (.plain (OpenSpec.ofChange gaussDividesSpec)) gaussDividesCard

/-- THE TIED CARD OF 'proctorlaw2.GaussSums'. -/
def gaussSumsCard : Claim7 := { stood := { row := gaussSumsRow, standIns := [], harness := (true, "e781a3e4aa93512d77f4c6d9a076d216469351dbaafdd5b704178ce39c354b30"), looks := true }, kinds := [], alts := [], laidByText := true, laidKinds := [.data, .data, .data], laidTests := true, laidLooks := .later }
def GaussSumsCardSaid : Prop := Claim7.holds Tryd.pinned (.plain (OpenSpec.ofChange gaussSumsSpec)) gaussSumsCard

/-- THE TIED CARD OF 'proctorlaw2.GaussRights'. -/
def gaussRightsCard : Claim7 := { stood := { row := gaussRightsRow, standIns := [], harness := (true, "e781a3e4aa93512d77f4c6d9a076d216469351dbaafdd5b704178ce39c354b30"), looks := true }, kinds := [], alts := [], laidByText := true, laidKinds := [.data, .data, .data], laidTests := true, laidLooks := .later }
def GaussRightsCardSaid : Prop := Claim7.holds Tryd.pinned (.plain (OpenSpec.ofChange gaussRightsSpec)) gaussRightsCard

/-- THE TIED CARD OF 'proctorlaw2.GaussTurns'. -/
def gaussTurnsCard : Claim7 := { stood := { row := gaussTurnsRow, standIns := [], harness := (true, "e781a3e4aa93512d77f4c6d9a076d216469351dbaafdd5b704178ce39c354b30"), looks := true }, kinds := [], alts := [], laidByText := true, laidKinds := [.data, .data, .data], laidTests := true, laidLooks := .later }
def GaussTurnsCardSaid : Prop := Claim7.holds Tryd.pinned (.plain (OpenSpec.ofChange gaussTurnsSpec)) gaussTurnsCard

/-- THE TIED CARD OF 'proctorlaw2.GaussDivision'. -/
def gaussDivisionCard : Claim7 := { stood := { row := gaussDivisionRow, standIns := [], harness := (true, "e781a3e4aa93512d77f4c6d9a076d216469351dbaafdd5b704178ce39c354b30"), looks := true }, kinds := [], alts := [], laidByText := true, laidKinds := [.data, .data, .data], laidTests := true, laidLooks := .later }
def GaussDivisionCardSaid : Prop := Claim7.holds Tryd.pinned (.plain (OpenSpec.ofChange gaussDivisionSpec)) gaussDivisionCard

/-- THE TIED CARD OF 'proctorlaw2.GaussUnits'. -/
def gaussUnitsCard : Claim7 := { stood := { row := gaussUnitsRow, standIns := [], harness := (true, "e781a3e4aa93512d77f4c6d9a076d216469351dbaafdd5b704178ce39c354b30"), looks := true }, kinds := [], alts := [], laidByText := true, laidKinds := [.data, .data, .data], laidTests := true, laidLooks := .later }
def GaussUnitsCardSaid : Prop := Claim7.holds Tryd.pinned (.plain (OpenSpec.ofChange gaussUnitsSpec)) gaussUnitsCard

/-- THE TIED CARD OF 'proctorlaw2.GaussPowers'. -/
def gaussPowersCard : Claim7 := { stood := { row := gaussPowersRow, standIns := [], harness := (true, "e781a3e4aa93512d77f4c6d9a076d216469351dbaafdd5b704178ce39c354b30"), looks := true }, kinds := [], alts := [], laidByText := true, laidKinds := [.data, .data, .data], laidTests := true, laidLooks := .later }
def GaussPowersCardSaid : Prop := Claim7.holds Tryd.pinned (.plain (OpenSpec.ofChange gaussPowersSpec)) gaussPowersCard

/-- THE TIED CARD OF 'proctorlaw2.GaussRing'. -/
def gaussRingCard : Claim7 := { stood := { row := gaussRingRow, standIns := [], harness := (true, "e781a3e4aa93512d77f4c6d9a076d216469351dbaafdd5b704178ce39c354b30"), looks := true }, kinds := [], alts := [], laidByText := true, laidKinds := [.data, .data, .data], laidTests := true, laidLooks := .later }
def GaussRingCardSaid : Prop := Claim7.holds Tryd.pinned (.plain (OpenSpec.ofChange gaussRingSpec)) gaussRingCard

/-- THE TIED CARD OF 'proctorlaw2.GaussTexts'. -/
def gaussTextsCard : Claim7 := { stood := { row := gaussTextsRow, standIns := [], harness := (true, "e781a3e4aa93512d77f4c6d9a076d216469351dbaafdd5b704178ce39c354b30"), looks := true }, kinds := [], alts := [], laidByText := true, laidKinds := [.data, .data, .data, .sentinel, .sentinel], laidTests := true, laidLooks := .later }
def GaussTextsCardSaid : Prop := Claim7.holds Tryd.pinned (.plain (OpenSpec.ofChange gaussTextsSpec)) gaussTextsCard

/-- THE TIED CARD OF 'proctorlaw2.GaussBack'. -/
def gaussBackCard : Claim7 := { stood := { row := gaussBackRow, standIns := [], harness := (true, "e781a3e4aa93512d77f4c6d9a076d216469351dbaafdd5b704178ce39c354b30"), looks := true }, kinds := [], alts := [], laidByText := true, laidKinds := [.data, .data, .data, .sentinel, .sentinel], laidTests := true, laidLooks := .later }
def GaussBackCardSaid : Prop := Claim7.holds Tryd.pinned (.plain (OpenSpec.ofChange gaussBackSpec)) gaussBackCard

/-- THE SECOND FORM's CARD OF 'proctorlaw2.GaussDivides'. -/
def gaussDividesUptoCard : Claim7 := { stood := { row := gaussDividesUptoRow, standIns := [], harness := (true, "e781a3e4aa93512d77f4c6d9a076d216469351dbaafdd5b704178ce39c354b30"), looks := true }, kinds := [], alts := [], laidByText := true, laidKinds := [.data, .data, .data], laidTests := true, laidLooks := .later }
def GaussDividesUptoCardSaid : Prop := Claim7.holds Tryd.pinned (.plain (OpenSpec.upto gaussDividesSpec)) gaussDividesUptoCard

/-- THE SECOND FORM's CARD OF 'proctorlaw2.GaussSums'. -/
def gaussSumsUptoCard : Claim7 := { stood := { row := gaussSumsUptoRow, standIns := [], harness := (true, "e781a3e4aa93512d77f4c6d9a076d216469351dbaafdd5b704178ce39c354b30"), looks := true }, kinds := [], alts := [], laidByText := true, laidKinds := [.data, .data, .data], laidTests := true, laidLooks := .later }
def GaussSumsUptoCardSaid : Prop := Claim7.holds Tryd.pinned (.plain (OpenSpec.upto gaussSumsSpec)) gaussSumsUptoCard

/-- THE SECOND FORM's CARD OF 'proctorlaw2.GaussRights'. -/
def gaussRightsUptoCard : Claim7 := { stood := { row := gaussRightsUptoRow, standIns := [], harness := (true, "e781a3e4aa93512d77f4c6d9a076d216469351dbaafdd5b704178ce39c354b30"), looks := true }, kinds := [], alts := [], laidByText := true, laidKinds := [.data, .data, .data], laidTests := true, laidLooks := .later }
def GaussRightsUptoCardSaid : Prop := Claim7.holds Tryd.pinned (.plain (OpenSpec.upto gaussRightsSpec)) gaussRightsUptoCard

/-- THE SECOND FORM's CARD OF 'proctorlaw2.GaussTurns'. -/
def gaussTurnsUptoCard : Claim7 := { stood := { row := gaussTurnsUptoRow, standIns := [], harness := (true, "e781a3e4aa93512d77f4c6d9a076d216469351dbaafdd5b704178ce39c354b30"), looks := true }, kinds := [], alts := [], laidByText := true, laidKinds := [.data, .data, .data], laidTests := true, laidLooks := .later }
def GaussTurnsUptoCardSaid : Prop := Claim7.holds Tryd.pinned (.plain (OpenSpec.upto gaussTurnsSpec)) gaussTurnsUptoCard

/-- THE SECOND FORM's CARD OF 'proctorlaw2.GaussDivision'. -/
def gaussDivisionUptoCard : Claim7 := { stood := { row := gaussDivisionUptoRow, standIns := [], harness := (true, "e781a3e4aa93512d77f4c6d9a076d216469351dbaafdd5b704178ce39c354b30"), looks := true }, kinds := [], alts := [], laidByText := true, laidKinds := [.data, .data, .data], laidTests := true, laidLooks := .later }
def GaussDivisionUptoCardSaid : Prop := Claim7.holds Tryd.pinned (.plain (OpenSpec.upto gaussDivisionSpec)) gaussDivisionUptoCard

/-- THE SECOND FORM's CARD OF 'proctorlaw2.GaussUnits'. -/
def gaussUnitsUptoCard : Claim7 := { stood := { row := gaussUnitsUptoRow, standIns := [], harness := (true, "e781a3e4aa93512d77f4c6d9a076d216469351dbaafdd5b704178ce39c354b30"), looks := true }, kinds := [], alts := [], laidByText := true, laidKinds := [.data, .data, .data], laidTests := true, laidLooks := .later }
def GaussUnitsUptoCardSaid : Prop := Claim7.holds Tryd.pinned (.plain (OpenSpec.upto gaussUnitsSpec)) gaussUnitsUptoCard

/-- THE SECOND FORM's CARD OF 'proctorlaw2.GaussPowers'. -/
def gaussPowersUptoCard : Claim7 := { stood := { row := gaussPowersUptoRow, standIns := [], harness := (true, "e781a3e4aa93512d77f4c6d9a076d216469351dbaafdd5b704178ce39c354b30"), looks := true }, kinds := [], alts := [], laidByText := true, laidKinds := [.data, .data, .data], laidTests := true, laidLooks := .later }
def GaussPowersUptoCardSaid : Prop := Claim7.holds Tryd.pinned (.plain (OpenSpec.upto gaussPowersSpec)) gaussPowersUptoCard

/-- THE SECOND FORM's CARD OF 'proctorlaw2.GaussRing'. -/
def gaussRingUptoCard : Claim7 := { stood := { row := gaussRingUptoRow, standIns := [], harness := (true, "e781a3e4aa93512d77f4c6d9a076d216469351dbaafdd5b704178ce39c354b30"), looks := true }, kinds := [], alts := [], laidByText := true, laidKinds := [.data, .data, .data], laidTests := true, laidLooks := .later }
def GaussRingUptoCardSaid : Prop := Claim7.holds Tryd.pinned (.plain (OpenSpec.upto gaussRingSpec)) gaussRingUptoCard

/-- THE SECOND FORM's CARD OF 'proctorlaw2.GaussTexts'. -/
def gaussTextsUptoCard : Claim7 := { stood := { row := gaussTextsUptoRow, standIns := [], harness := (true, "e781a3e4aa93512d77f4c6d9a076d216469351dbaafdd5b704178ce39c354b30"), looks := true }, kinds := [], alts := [], laidByText := true, laidKinds := [.data, .data, .data, .sentinel, .sentinel], laidTests := true, laidLooks := .later }
def GaussTextsUptoCardSaid : Prop := Claim7.holds Tryd.pinned (.plain (OpenSpec.upto gaussTextsSpec)) gaussTextsUptoCard

/-- THE SECOND FORM's CARD OF 'proctorlaw2.GaussBack'. -/
def gaussBackUptoCard : Claim7 := { stood := { row := gaussBackUptoRow, standIns := [], harness := (true, "e781a3e4aa93512d77f4c6d9a076d216469351dbaafdd5b704178ce39c354b30"), looks := true }, kinds := [], alts := [], laidByText := true, laidKinds := [.data, .data, .data, .sentinel, .sentinel], laidTests := true, laidLooks := .later }
def GaussBackUptoCardSaid : Prop := Claim7.holds Tryd.pinned (.plain (OpenSpec.upto gaussBackSpec)) gaussBackUptoCard
end Rows
end Go.Proofs.YtmmfjonoenmplaaDoor
