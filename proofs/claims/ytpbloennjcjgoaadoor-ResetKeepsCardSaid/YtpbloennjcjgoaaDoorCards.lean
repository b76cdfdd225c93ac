/-
  DERIVED. GIVEN WITH THE SEED: THE CARDS: each row of YtpbloennjcjgoaaDoorRows.lean that lists a variable, with what it lists TIED to the program's text (the seventh form; the later family's looks); each row that meets fmt, with fmt's text TOLD by the authors' own Lean function (tested against real Go, not proved from fmt's source: count such statements apart). THE CARD IS WHAT COUNTS. Prove the row's statement (the work); the ties are given (YtpbloennjcjgoaaDoorTie.lean); close each card by the builder's one call (the guide's Derived/Test/ToyasCard.lean, 'card_holds'). Laid BY PROGRAM, IN A SANDBOX (cutbox-door.mjs). By AI agents, Wed Nov 11 2026. No macro, syntax, notation, axiom, sorry.
-/
import Derived.Test.YtpbloennjcjgoaaDoorRows
import GoSem.ClaimSeven
namespace Go.Proofs.YtpbloennjcjgoaaDoor
namespace Rows

/-- THE TIED CARD OF 'proctorlaw16.ResetForms'. -/
def resetFormsCard : Claim7 := { stood := { row := resetFormsRow, standIns := [], harness := (true, "19305fd620634ef14229f2d03ac7d9ecf5baef5f0b04b2004afd86e10cb7e21d"), looks := true }, kinds := [], alts := [], laidByText := true, laidKinds := [.widerDeep], laidTests := true, laidLooks := .later }
def ResetFormsCardSaid : Prop := Claim7.holds Tryd.pinned (.plain (OpenSpec.ofChange resetFormsSpec)) resetFormsCard

/-- THE TIED CARD OF 'proctorlaw16.ResetSpoils'. -/
def resetSpoilsCard : Claim7 := { stood := { row := resetSpoilsRow, standIns := [], harness := (true, "19305fd620634ef14229f2d03ac7d9ecf5baef5f0b04b2004afd86e10cb7e21d"), looks := true }, kinds := [], alts := [], laidByText := true, laidKinds := [.widerDeep], laidTests := true, laidLooks := .later }
def ResetSpoilsCardSaid : Prop := Claim7.holds Tryd.pinned (.plain (OpenSpec.ofChange resetSpoilsSpec)) resetSpoilsCard

/-- THE TIED CARD OF 'proctorlaw16.ResetDiffers'. -/
def resetDiffersCard : Claim7 := { stood := { row := resetDiffersRow, standIns := [], harness := (true, "19305fd620634ef14229f2d03ac7d9ecf5baef5f0b04b2004afd86e10cb7e21d"), looks := true }, kinds := [], alts := [], laidByText := true, laidKinds := [.widerDeep], laidTests := true, laidLooks := .later }
def ResetDiffersCardSaid : Prop := Claim7.holds Tryd.pinned (.plain (OpenSpec.ofChange resetDiffersSpec)) resetDiffersCard

/-- THE TIED CARD OF 'proctorlaw16.ResetAlien'. -/
def resetAlienCard : Claim7 := { stood := { row := resetAlienRow, standIns := [], harness := (true, "19305fd620634ef14229f2d03ac7d9ecf5baef5f0b04b2004afd86e10cb7e21d"), looks := true }, kinds := [], alts := [], laidByText := true, laidKinds := [.widerDeep], laidTests := true, laidLooks := .later }
def ResetAlienCardSaid : Prop := Claim7.holds Tryd.pinned (.plain (OpenSpec.ofChange resetAlienSpec)) resetAlienCard

/-- THE TIED CARD OF 'proctorlaw16.ResetLays'. -/
def resetLaysCard : Claim7 := { stood := { row := resetLaysRow, standIns := [], harness := (true, "19305fd620634ef14229f2d03ac7d9ecf5baef5f0b04b2004afd86e10cb7e21d"), looks := true }, kinds := [], alts := [], laidByText := true, laidKinds := [.widerDeep], laidTests := true, laidLooks := .later }
def ResetLaysCardSaid : Prop := Claim7.holds Tryd.pinned (.plain (OpenSpec.ofChange resetLaysSpec)) resetLaysCard

/-- THE TIED CARD OF 'proctorlaw16.ResetKeeps'. -/
def resetKeepsCard : Claim7 := { stood := { row := resetKeepsRow, standIns := [], harness := (true, "19305fd620634ef14229f2d03ac7d9ecf5baef5f0b04b2004afd86e10cb7e21d"), looks := true }, kinds := [], alts := [], laidByText := true, laidKinds := [.widerDeep], laidTests := true, laidLooks := .later }
def ResetKeepsCardSaid : Prop := Claim7.holds Tryd.pinned (.plain (OpenSpec.ofChange resetKeepsSpec)) resetKeepsCard

/-- THE SECOND FORM's CARD OF 'proctorlaw16.ResetForms'. -/
def resetFormsUptoCard : Claim7 := { stood := { row := resetFormsUptoRow, standIns := [], harness := (true, "19305fd620634ef14229f2d03ac7d9ecf5baef5f0b04b2004afd86e10cb7e21d"), looks := true }, kinds := [], alts := [], laidByText := true, laidKinds := [.widerDeep], laidTests := true, laidLooks := .later }
def ResetFormsUptoCardSaid : Prop := Claim7.holds Tryd.pinned (.plain (OpenSpec.upto resetFormsSpec)) resetFormsUptoCard

/-- THE SECOND FORM's CARD OF 'proctorlaw16.ResetSpoils'. -/
def resetSpoilsUptoCard : Claim7 := { stood := { row := resetSpoilsUptoRow, standIns := [], harness := (true, "19305fd620634ef14229f2d03ac7d9ecf5baef5f0b04b2004afd86e10cb7e21d"), looks := true }, kinds := [], alts := [], laidByText := true, laidKinds := [.widerDeep], laidTests := true, laidLooks := .later }
def ResetSpoilsUptoCardSaid : Prop := Claim7.holds Tryd.pinned (.plain (OpenSpec.upto resetSpoilsSpec)) resetSpoilsUptoCard

/-- THE SECOND FORM's CARD OF 'proctorlaw16.ResetDiffers'. -/
def resetDiffersUptoCard : Claim7 := { stood := { row := resetDiffersUptoRow, standIns := [], harness := (true, "19305fd620634ef14229f2d03ac7d9ecf5baef5f0b04b2004afd86e10cb7e21d"), looks := true }, kinds := [], alts := [], laidByText := true, laidKinds := [.widerDeep], laidTests := true, laidLooks := .later }
def ResetDiffersUptoCardSaid : Prop := Claim7.holds Tryd.pinned (.plain (OpenSpec.upto resetDiffersSpec)) resetDiffersUptoCard

/-- THE SECOND FORM's CARD OF 'proctorlaw16.ResetAlien'. -/
def resetAlienUptoCard : Claim7 := { stood := { row := resetAlienUptoRow, standIns := [], harness := (true, "19305fd620634ef14229f2d03ac7d9ecf5baef5f0b04b2004afd86e10cb7e21d"), looks := true }, kinds := [], alts := [], laidByText := true, laidKinds := [.widerDeep], laidTests := true, laidLooks := .later }
def ResetAlienUptoCardSaid : Prop := Claim7.holds Tryd.pinned (.plain (OpenSpec.upto resetAlienSpec)) resetAlienUptoCard

/-- THE SECOND FORM's CARD OF 'proctorlaw16.ResetLays'. -/
def resetLaysUptoCard : Claim7 := { stood := { row := resetLaysUptoRow, standIns := [], harness := (true, "19305fd620634ef14229f2d03ac7d9ecf5baef5f0b04b2004afd86e10cb7e21d"), looks := true }, kinds := [], alts := [], laidByText := true, laidKinds := [.widerDeep], laidTests := true, laidLooks := .later }
def ResetLaysUptoCardSaid : Prop := Claim7.holds Tryd.pinned (.plain (OpenSpec.upto resetLaysSpec)) resetLaysUptoCard

/-- THE SECOND FORM's CARD OF 'proctorlaw16.ResetKeeps'. -/
def resetKeepsUptoCard : Claim7 := { stood := { row := resetKeepsUptoRow, standIns := [], harness := (true, "19305fd620634ef14229f2d03ac7d9ecf5baef5f0b04b2004afd86e10cb7e21d"), looks := true }, kinds := [], alts := [], laidByText := true, laidKinds := [.widerDeep], laidTests := true, laidLooks := .later }
def ResetKeepsUptoCardSaid : Prop := Claim7.holds Tryd.pinned (.plain (OpenSpec.upto resetKeepsSpec)) resetKeepsUptoCard
end Rows
end Go.Proofs.YtpbloennjcjgoaaDoor
