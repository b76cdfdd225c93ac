/-
  DERIVED. GIVEN WITH THE SEED: THE CARDS: each row of YtndgcndmkfjdgaaDoorRows.lean that lists a variable, with what it lists TIED to the program's text (the seventh form; the later family's looks); each row that meets fmt, with fmt's text TOLD by the authors' own Lean function (tested against real Go, not proved from fmt's source: count such statements apart). THE CARD IS WHAT COUNTS. Prove the row's statement (the work); the ties are given (YtndgcndmkfjdgaaDoorTie.lean); close each card by the builder's one call (the guide's Derived/Test/ToyasCard.lean, 'card_holds'). Laid BY PROGRAM, IN A SANDBOX (cutbox-door.mjs). By AI agents, Wed Nov 11 2026. No macro, syntax, notation, axiom, sorry.
-/
import Derived.Test.YtndgcndmkfjdgaaDoorRows
import GoSem.ClaimSeven
namespace Go.Proofs.YtndgcndmkfjdgaaDoor
namespace Rows

/-- THE TIED CARD OF 'proctorlaw10.PlaneCloses'. -/
def planeClosesCard : Claim7 := { stood := { row := planeClosesRow, standIns := [], harness := (true, "6ae3dfa2ccb3307ab04b45d93fab6038164ba09232ea03e4dc608962bbc51d12"), looks := true }, kinds := [], alts := [], laidByText := true, laidKinds := [.data, .pinned], laidTests := true, laidLooks := .later }
def PlaneClosesCardSaid : Prop := Claim7.holds Tryd.pinned (.plain (OpenSpec.ofChange planeClosesSpec)) planeClosesCard

/-- THE TIED CARD OF 'proctorlaw10.PlaneDraws'. -/
def planeDrawsCard : Claim7 := { stood := { row := planeDrawsRow, standIns := [], harness := (true, "6ae3dfa2ccb3307ab04b45d93fab6038164ba09232ea03e4dc608962bbc51d12"), looks := true }, kinds := [], alts := [], laidByText := true, laidKinds := [.data, .pinned], laidTests := true, laidLooks := .later }
def PlaneDrawsCardSaid : Prop := Claim7.holds Tryd.pinned (.plain (OpenSpec.ofChange planeDrawsSpec)) planeDrawsCard

/-- THE TIED CARD OF 'proctorlaw10.PlaneMany'. -/
def planeManyCard : Claim7 := { stood := { row := planeManyRow, standIns := [], harness := (true, "6ae3dfa2ccb3307ab04b45d93fab6038164ba09232ea03e4dc608962bbc51d12"), looks := true }, kinds := [], alts := [], laidByText := true, laidKinds := [.data, .pinned], laidTests := true, laidLooks := .later }
def PlaneManyCardSaid : Prop := Claim7.holds Tryd.pinned (.plain (OpenSpec.ofChange planeManySpec)) planeManyCard

/-- THE TIED CARD OF 'proctorlaw10.PlanePlays'. -/
def planePlaysCard : Claim7 := { stood := { row := planePlaysRow, standIns := [], harness := (true, "6ae3dfa2ccb3307ab04b45d93fab6038164ba09232ea03e4dc608962bbc51d12"), looks := true }, kinds := [], alts := [], laidByText := true, laidKinds := [.data, .pinned], laidTests := true, laidLooks := .later }
def PlanePlaysCardSaid : Prop := Claim7.holds Tryd.pinned (.plain (OpenSpec.ofChange planePlaysSpec)) planePlaysCard

/-- THE TIED CARD OF 'proctorlaw10.PlaneAreas'. -/
def planeAreasCard : Claim7 := { stood := { row := planeAreasRow, standIns := [], harness := (true, "6ae3dfa2ccb3307ab04b45d93fab6038164ba09232ea03e4dc608962bbc51d12"), looks := true }, kinds := [], alts := [], laidByText := true, laidKinds := [.data, .pinned], laidTests := true, laidLooks := .later }
def PlaneAreasCardSaid : Prop := Claim7.holds Tryd.pinned (.plain (OpenSpec.ofChange planeAreasSpec)) planeAreasCard

/-- THE TIED CARD OF 'proctorlaw10.PlaneMoves'. -/
def planeMovesCard : Claim7 := { stood := { row := planeMovesRow, standIns := [], harness := (true, "6ae3dfa2ccb3307ab04b45d93fab6038164ba09232ea03e4dc608962bbc51d12"), looks := true }, kinds := [], alts := [], laidByText := true, laidKinds := [.data, .pinned], laidTests := true, laidLooks := .later }
def PlaneMovesCardSaid : Prop := Claim7.holds Tryd.pinned (.plain (OpenSpec.ofChange planeMovesSpec)) planeMovesCard

/-- THE TIED CARD OF 'proctorlaw10.PlaneSame'. -/
def planeSameCard : Claim7 := { stood := { row := planeSameRow, standIns := [], harness := (true, "6ae3dfa2ccb3307ab04b45d93fab6038164ba09232ea03e4dc608962bbc51d12"), looks := true }, kinds := [], alts := [], laidByText := true, laidKinds := [.data, .pinned], laidTests := true, laidLooks := .later }
def PlaneSameCardSaid : Prop := Claim7.holds Tryd.pinned (.plain (OpenSpec.ofChange planeSameSpec)) planeSameCard

/-- THE TIED CARD OF 'proctorlaw10.PlaneTurtles'. -/
def planeTurtlesCard : Claim7 := { stood := { row := planeTurtlesRow, standIns := [], harness := (true, "6ae3dfa2ccb3307ab04b45d93fab6038164ba09232ea03e4dc608962bbc51d12"), looks := true }, kinds := [], alts := [], laidByText := true, laidKinds := [.data, .pinned], laidTests := true, laidLooks := .later }
def PlaneTurtlesCardSaid : Prop := Claim7.holds Tryd.pinned (.plain (OpenSpec.ofChange planeTurtlesSpec)) planeTurtlesCard

/-- THE SECOND FORM's CARD OF 'proctorlaw10.PlaneCloses'. -/
def planeClosesUptoCard : Claim7 := { stood := { row := planeClosesUptoRow, standIns := [], harness := (true, "6ae3dfa2ccb3307ab04b45d93fab6038164ba09232ea03e4dc608962bbc51d12"), looks := true }, kinds := [], alts := [], laidByText := true, laidKinds := [.data, .pinned], laidTests := true, laidLooks := .later }
def PlaneClosesUptoCardSaid : Prop := Claim7.holds Tryd.pinned (.plain (OpenSpec.upto planeClosesSpec)) planeClosesUptoCard

/-- THE SECOND FORM's CARD OF 'proctorlaw10.PlaneDraws'. -/
def planeDrawsUptoCard : Claim7 := { stood := { row := planeDrawsUptoRow, standIns := [], harness := (true, "6ae3dfa2ccb3307ab04b45d93fab6038164ba09232ea03e4dc608962bbc51d12"), looks := true }, kinds := [], alts := [], laidByText := true, laidKinds := [.data, .pinned], laidTests := true, laidLooks := .later }
def PlaneDrawsUptoCardSaid : Prop := Claim7.holds Tryd.pinned (.plain (OpenSpec.upto planeDrawsSpec)) planeDrawsUptoCard

/-- THE SECOND FORM's CARD OF 'proctorlaw10.PlaneMany'. -/
def planeManyUptoCard : Claim7 := { stood := { row := planeManyUptoRow, standIns := [], harness := (true, "6ae3dfa2ccb3307ab04b45d93fab6038164ba09232ea03e4dc608962bbc51d12"), looks := true }, kinds := [], alts := [], laidByText := true, laidKinds := [.data, .pinned], laidTests := true, laidLooks := .later }
def PlaneManyUptoCardSaid : Prop := Claim7.holds Tryd.pinned (.plain (OpenSpec.upto planeManySpec)) planeManyUptoCard

/-- THE SECOND FORM's CARD OF 'proctorlaw10.PlanePlays'. -/
def planePlaysUptoCard : Claim7 := { stood := { row := planePlaysUptoRow, standIns := [], harness := (true, "6ae3dfa2ccb3307ab04b45d93fab6038164ba09232ea03e4dc608962bbc51d12"), looks := true }, kinds := [], alts := [], laidByText := true, laidKinds := [.data, .pinned], laidTests := true, laidLooks := .later }
def PlanePlaysUptoCardSaid : Prop := Claim7.holds Tryd.pinned (.plain (OpenSpec.upto planePlaysSpec)) planePlaysUptoCard

/-- THE SECOND FORM's CARD OF 'proctorlaw10.PlaneAreas'. -/
def planeAreasUptoCard : Claim7 := { stood := { row := planeAreasUptoRow, standIns := [], harness := (true, "6ae3dfa2ccb3307ab04b45d93fab6038164ba09232ea03e4dc608962bbc51d12"), looks := true }, kinds := [], alts := [], laidByText := true, laidKinds := [.data, .pinned], laidTests := true, laidLooks := .later }
def PlaneAreasUptoCardSaid : Prop := Claim7.holds Tryd.pinned (.plain (OpenSpec.upto planeAreasSpec)) planeAreasUptoCard

/-- THE SECOND FORM's CARD OF 'proctorlaw10.PlaneMoves'. -/
def planeMovesUptoCard : Claim7 := { stood := { row := planeMovesUptoRow, standIns := [], harness := (true, "6ae3dfa2ccb3307ab04b45d93fab6038164ba09232ea03e4dc608962bbc51d12"), looks := true }, kinds := [], alts := [], laidByText := true, laidKinds := [.data, .pinned], laidTests := true, laidLooks := .later }
def PlaneMovesUptoCardSaid : Prop := Claim7.holds Tryd.pinned (.plain (OpenSpec.upto planeMovesSpec)) planeMovesUptoCard

/-- THE SECOND FORM's CARD OF 'proctorlaw10.PlaneSame'. -/
def planeSameUptoCard : Claim7 := { stood := { row := planeSameUptoRow, standIns := [], harness := (true, "6ae3dfa2ccb3307ab04b45d93fab6038164ba09232ea03e4dc608962bbc51d12"), looks := true }, kinds := [], alts := [], laidByText := true, laidKinds := [.data, .pinned], laidTests := true, laidLooks := .later }
def PlaneSameUptoCardSaid : Prop := Claim7.holds Tryd.pinned (.plain (OpenSpec.upto planeSameSpec)) planeSameUptoCard

/-- THE SECOND FORM's CARD OF 'proctorlaw10.PlaneTurtles'. -/
def planeTurtlesUptoCard : Claim7 := { stood := { row := planeTurtlesUptoRow, standIns := [], harness := (true, "6ae3dfa2ccb3307ab04b45d93fab6038164ba09232ea03e4dc608962bbc51d12"), looks := true }, kinds := [], alts := [], laidByText := true, laidKinds := [.data, .pinned], laidTests := true, laidLooks := .later }
def PlaneTurtlesUptoCardSaid : Prop := Claim7.holds Tryd.pinned (.plain (OpenSpec.upto planeTurtlesSpec)) planeTurtlesUptoCard
end Rows
end Go.Proofs.YtndgcndmkfjdgaaDoor
