/-
  DERIVED. GIVEN WITH THE SEED: THE CARDS: each row of YtbhgjjicmbbjaaaDoorRows.lean that lists a variable, with what it lists TIED to the program's text (the seventh form; the later family's looks); each row that meets fmt, with fmt's text TOLD by the authors' own Lean function (tested against real Go, not proved from fmt's source: count such statements apart). THE CARD IS WHAT COUNTS. Prove the row's statement (the work); the ties are given (YtbhgjjicmbbjaaaDoorTie.lean); close each card by the builder's one call (the guide's Derived/Test/ToyasCard.lean, 'card_holds'). Laid BY PROGRAM, IN A SANDBOX (cutbox-door.mjs). By AI agents, Wed Nov 11 2026. No macro, syntax, notation, axiom, sorry.
-/
import Derived.Test.YtbhgjjicmbbjaaaDoorRows
import GoSem.ClaimSeven
namespace Go.Proofs.YtbhgjjicmbbjaaaDoor
namespace Rows

/-- THE TIED CARD OF 'proctorlaw17.ScriptPublics'. -/
def scriptPublicsCard : Claim7 := { stood := { row := scriptPublicsRow, standIns := [], harness := (true, "080e0b2de1d583ceba76a4adc78ac4cfac445383ae6c4d2ef2a23107c6791297"), looks := true }, kinds := [], alts := [], laidByText := true, laidKinds := [.data, .data, .data, .sentinel, .sentinel, .listed, .data], laidTests := true, laidLooks := .later }
def ScriptPublicsCardSaid : Prop := Claim7.holds Tryd.pinned (.plain (OpenSpec.ofChange scriptPublicsSpec)) scriptPublicsCard

/-- THE TIED CARD OF 'proctorlaw17.ScriptPrivates'. -/
def scriptPrivatesCard : Claim7 := { stood := { row := scriptPrivatesRow, standIns := [], harness := (true, "080e0b2de1d583ceba76a4adc78ac4cfac445383ae6c4d2ef2a23107c6791297"), looks := true }, kinds := [], alts := [], laidByText := true, laidKinds := [.data, .data, .data, .sentinel, .sentinel, .listed, .data], laidTests := true, laidLooks := .later }
def ScriptPrivatesCardSaid : Prop := Claim7.holds Tryd.pinned (.plain (OpenSpec.ofChange scriptPrivatesSpec)) scriptPrivatesCard

/-- THE TIED CARD OF 'proctorlaw17.ScriptWords'. -/
def scriptWordsCard : Claim7 := { stood := { row := scriptWordsRow, standIns := [], harness := (true, "080e0b2de1d583ceba76a4adc78ac4cfac445383ae6c4d2ef2a23107c6791297"), looks := true }, kinds := [], alts := [], laidByText := true, laidKinds := [.data, .data, .data, .sentinel, .sentinel, .listed, .data], laidTests := true, laidLooks := .later }
def ScriptWordsCardSaid : Prop := Claim7.holds Tryd.pinned (.plain (OpenSpec.ofChange scriptWordsSpec)) scriptWordsCard

/-- THE TIED CARD OF 'proctorlaw17.ScriptTexts'. -/
def scriptTextsCard : Claim7 := { stood := { row := scriptTextsRow, standIns := [], harness := (true, "080e0b2de1d583ceba76a4adc78ac4cfac445383ae6c4d2ef2a23107c6791297"), looks := true }, kinds := [], alts := [], laidByText := true, laidKinds := [.data, .data, .data, .sentinel, .sentinel, .listed, .data], laidTests := true, laidLooks := .later }
def ScriptTextsCardSaid : Prop := Claim7.holds Tryd.pinned (.plain (OpenSpec.ofChange scriptTextsSpec)) scriptTextsCard

/-- THE TIED CARD OF 'proctorlaw17.ScriptApart'. -/
def scriptApartCard : Claim7 := { stood := { row := scriptApartRow, standIns := [], harness := (true, "080e0b2de1d583ceba76a4adc78ac4cfac445383ae6c4d2ef2a23107c6791297"), looks := true }, kinds := [], alts := [], laidByText := true, laidKinds := [.data, .data, .data, .sentinel, .sentinel, .listed, .data], laidTests := true, laidLooks := .later }
def ScriptApartCardSaid : Prop := Claim7.holds Tryd.pinned (.plain (OpenSpec.ofChange scriptApartSpec)) scriptApartCard

/-- THE TIED CARD OF 'proctorlaw17.ScriptReads'. -/
def scriptReadsCard : Claim7 := { stood := { row := scriptReadsRow, standIns := [], harness := (true, "080e0b2de1d583ceba76a4adc78ac4cfac445383ae6c4d2ef2a23107c6791297"), looks := true }, kinds := [], alts := [], laidByText := true, laidKinds := [.data, .data, .data, .sentinel, .sentinel, .listed, .data], laidTests := true, laidLooks := .later }
def ScriptReadsCardSaid : Prop := Claim7.holds Tryd.pinned (.plain (OpenSpec.ofChange scriptReadsSpec)) scriptReadsCard

/-- THE TIED CARD OF 'proctorlaw17.ScriptBack'. -/
def scriptBackCard : Claim7 := { stood := { row := scriptBackRow, standIns := [], harness := (true, "080e0b2de1d583ceba76a4adc78ac4cfac445383ae6c4d2ef2a23107c6791297"), looks := true }, kinds := [], alts := [], laidByText := true, laidKinds := [.data, .data, .data, .sentinel, .sentinel, .listed, .data], laidTests := true, laidLooks := .later }
def ScriptBackCardSaid : Prop := Claim7.holds Tryd.pinned (.plain (OpenSpec.ofChange scriptBackSpec)) scriptBackCard

/-- THE SECOND FORM's CARD OF 'proctorlaw17.ScriptPublics'. -/
def scriptPublicsUptoCard : Claim7 := { stood := { row := scriptPublicsUptoRow, standIns := [], harness := (true, "080e0b2de1d583ceba76a4adc78ac4cfac445383ae6c4d2ef2a23107c6791297"), looks := true }, kinds := [], alts := [], laidByText := true, laidKinds := [.data, .data, .data, .sentinel, .sentinel, .listed, .data], laidTests := true, laidLooks := .later }
def ScriptPublicsUptoCardSaid : Prop := Claim7.holds Tryd.pinned (.plain (OpenSpec.upto scriptPublicsSpec)) scriptPublicsUptoCard

/-- THE SECOND FORM's CARD OF 'proctorlaw17.ScriptPrivates'. -/
def scriptPrivatesUptoCard : Claim7 := { stood := { row := scriptPrivatesUptoRow, standIns := [], harness := (true, "080e0b2de1d583ceba76a4adc78ac4cfac445383ae6c4d2ef2a23107c6791297"), looks := true }, kinds := [], alts := [], laidByText := true, laidKinds := [.data, .data, .data, .sentinel, .sentinel, .listed, .data], laidTests := true, laidLooks := .later }
def ScriptPrivatesUptoCardSaid : Prop := Claim7.holds Tryd.pinned (.plain (OpenSpec.upto scriptPrivatesSpec)) scriptPrivatesUptoCard

/-- THE SECOND FORM's CARD OF 'proctorlaw17.ScriptWords'. -/
def scriptWordsUptoCard : Claim7 := { stood := { row := scriptWordsUptoRow, standIns := [], harness := (true, "080e0b2de1d583ceba76a4adc78ac4cfac445383ae6c4d2ef2a23107c6791297"), looks := true }, kinds := [], alts := [], laidByText := true, laidKinds := [.data, .data, .data, .sentinel, .sentinel, .listed, .data], laidTests := true, laidLooks := .later }
def ScriptWordsUptoCardSaid : Prop := Claim7.holds Tryd.pinned (.plain (OpenSpec.upto scriptWordsSpec)) scriptWordsUptoCard

/-- THE SECOND FORM's CARD OF 'proctorlaw17.ScriptTexts'. -/
def scriptTextsUptoCard : Claim7 := { stood := { row := scriptTextsUptoRow, standIns := [], harness := (true, "080e0b2de1d583ceba76a4adc78ac4cfac445383ae6c4d2ef2a23107c6791297"), looks := true }, kinds := [], alts := [], laidByText := true, laidKinds := [.data, .data, .data, .sentinel, .sentinel, .listed, .data], laidTests := true, laidLooks := .later }
def ScriptTextsUptoCardSaid : Prop := Claim7.holds Tryd.pinned (.plain (OpenSpec.upto scriptTextsSpec)) scriptTextsUptoCard

/-- THE SECOND FORM's CARD OF 'proctorlaw17.ScriptApart'. -/
def scriptApartUptoCard : Claim7 := { stood := { row := scriptApartUptoRow, standIns := [], harness := (true, "080e0b2de1d583ceba76a4adc78ac4cfac445383ae6c4d2ef2a23107c6791297"), looks := true }, kinds := [], alts := [], laidByText := true, laidKinds := [.data, .data, .data, .sentinel, .sentinel, .listed, .data], laidTests := true, laidLooks := .later }
def ScriptApartUptoCardSaid : Prop := Claim7.holds Tryd.pinned (.plain (OpenSpec.upto scriptApartSpec)) scriptApartUptoCard

/-- THE SECOND FORM's CARD OF 'proctorlaw17.ScriptReads'. -/
def scriptReadsUptoCard : Claim7 := { stood := { row := scriptReadsUptoRow, standIns := [], harness := (true, "080e0b2de1d583ceba76a4adc78ac4cfac445383ae6c4d2ef2a23107c6791297"), looks := true }, kinds := [], alts := [], laidByText := true, laidKinds := [.data, .data, .data, .sentinel, .sentinel, .listed, .data], laidTests := true, laidLooks := .later }
def ScriptReadsUptoCardSaid : Prop := Claim7.holds Tryd.pinned (.plain (OpenSpec.upto scriptReadsSpec)) scriptReadsUptoCard

/-- THE SECOND FORM's CARD OF 'proctorlaw17.ScriptBack'. -/
def scriptBackUptoCard : Claim7 := { stood := { row := scriptBackUptoRow, standIns := [], harness := (true, "080e0b2de1d583ceba76a4adc78ac4cfac445383ae6c4d2ef2a23107c6791297"), looks := true }, kinds := [], alts := [], laidByText := true, laidKinds := [.data, .data, .data, .sentinel, .sentinel, .listed, .data], laidTests := true, laidLooks := .later }
def ScriptBackUptoCardSaid : Prop := Claim7.holds Tryd.pinned (.plain (OpenSpec.upto scriptBackSpec)) scriptBackUptoCard
end Rows
end Go.Proofs.YtbhgjjicmbbjaaaDoor
