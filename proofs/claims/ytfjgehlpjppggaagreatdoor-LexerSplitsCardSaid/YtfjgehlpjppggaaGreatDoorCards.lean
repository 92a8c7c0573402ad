/-
  DERIVED. GIVEN WITH THE SEED: THE CARDS: each row of YtfjgehlpjppggaaGreatDoorRows.lean that lists a variable, with what it lists TIED to the program's text (the seventh form; the later family's looks); each row that meets fmt, with fmt's text TOLD by the authors' own Lean function (tested against real Go, not proved from fmt's source: count such statements apart). THE CARD IS WHAT COUNTS. Prove the row's statement (the work); the ties are given (YtfjgehlpjppggaaGreatDoorTie.lean); close each card by the builder's one call (the guide's Derived/Test/ToyasCard.lean, 'card_holds'). Laid BY PROGRAM, IN A SANDBOX (cutbox-door.mjs). By AI agents, Wed Nov 11 2026. No macro, syntax, notation, axiom, sorry.
-/
import Derived.Test.YtfjgehlpjppggaaGreatDoorRows
import GoSem.ClaimSeven
namespace Go.Proofs.YtfjgehlpjppggaaGreatDoor
namespace Rows

/-- THE TIED CARD OF 'metrolablaw14.LexerWords'. -/
def lexerWordsCard : Claim7 := { stood := { row := lexerWordsRow, standIns := [], harness := (true, "08a089a0dbaa55523887d198cf46f4c439181aaede2ff20b90b45caf19d7c27e"), looks := true }, kinds := [], alts := [], laidByText := true, laidKinds := [.data, .data, .data, .data, .sentinel, .sentinel, .pinned], laidTests := true, laidLooks := .later }
def LexerWordsCardSaid : Prop := Claim7.holds Tryz.pinned (.plain (OpenSpec.ofChange lexerWordsSpec)) lexerWordsCard

/-- THE TIED CARD OF 'metrolablaw14.LexerScans'. -/
def lexerScansCard : Claim7 := { stood := { row := lexerScansRow, standIns := [], harness := (true, "08a089a0dbaa55523887d198cf46f4c439181aaede2ff20b90b45caf19d7c27e"), looks := true }, kinds := [], alts := [], laidByText := true, laidKinds := [.data, .data, .data, .data, .sentinel, .sentinel, .pinned], laidTests := true, laidLooks := .later }
def LexerScansCardSaid : Prop := Claim7.holds Tryz.pinned (.plain (OpenSpec.ofChange lexerScansSpec)) lexerScansCard

/-- THE TIED CARD OF 'metrolablaw14.LexerJoins'. -/
def lexerJoinsCard : Claim7 := { stood := { row := lexerJoinsRow, standIns := [], harness := (true, "08a089a0dbaa55523887d198cf46f4c439181aaede2ff20b90b45caf19d7c27e"), looks := true }, kinds := [], alts := [], laidByText := true, laidKinds := [.data, .data, .data, .data, .sentinel, .sentinel, .pinned], laidTests := true, laidLooks := .later }
def LexerJoinsCardSaid : Prop := Claim7.holds Tryz.pinned (.plain (OpenSpec.ofChange lexerJoinsSpec)) lexerJoinsCard

/-- THE TIED CARD OF 'metrolablaw14.LexerValues'. -/
def lexerValuesCard : Claim7 := { stood := { row := lexerValuesRow, standIns := [], harness := (true, "08a089a0dbaa55523887d198cf46f4c439181aaede2ff20b90b45caf19d7c27e"), looks := true }, kinds := [], alts := [], laidByText := true, laidKinds := [.data, .data, .data, .data, .sentinel, .sentinel, .pinned], laidTests := true, laidLooks := .later }
def LexerValuesCardSaid : Prop := Claim7.holds Tryz.pinned (.plain (OpenSpec.ofChange lexerValuesSpec)) lexerValuesCard

/-- THE TIED CARD OF 'metrolablaw14.LexerCovers'. -/
def lexerCoversCard : Claim7 := { stood := { row := lexerCoversRow, standIns := [], harness := (true, "08a089a0dbaa55523887d198cf46f4c439181aaede2ff20b90b45caf19d7c27e"), looks := true }, kinds := [], alts := [], laidByText := true, laidKinds := [.data, .data, .data, .data, .sentinel, .sentinel, .pinned], laidTests := true, laidLooks := .later }
def LexerCoversCardSaid : Prop := Claim7.holds Tryz.pinned (.plain (OpenSpec.ofChange lexerCoversSpec)) lexerCoversCard

/-- THE TIED CARD OF 'metrolablaw14.LexerNormal'. -/
def lexerNormalCard : Claim7 := { stood := { row := lexerNormalRow, standIns := [], harness := (true, "08a089a0dbaa55523887d198cf46f4c439181aaede2ff20b90b45caf19d7c27e"), looks := true }, kinds := [], alts := [], laidByText := true, laidKinds := [.data, .data, .data, .data, .sentinel, .sentinel, .pinned], laidTests := true, laidLooks := .later }
def LexerNormalCardSaid : Prop := Claim7.holds Tryz.pinned (.plain (OpenSpec.ofChange lexerNormalSpec)) lexerNormalCard

/-- THE TIED CARD OF 'metrolablaw14.LexerParts'. -/
def lexerPartsCard : Claim7 := { stood := { row := lexerPartsRow, standIns := [], harness := (true, "08a089a0dbaa55523887d198cf46f4c439181aaede2ff20b90b45caf19d7c27e"), looks := true }, kinds := [], alts := [], laidByText := true, laidKinds := [.data, .data, .data, .data, .sentinel, .sentinel, .pinned], laidTests := true, laidLooks := .later }
def LexerPartsCardSaid : Prop := Claim7.holds Tryz.pinned (.plain (OpenSpec.ofChange lexerPartsSpec)) lexerPartsCard

/-- THE TIED CARD OF 'metrolablaw14.LexerSplits'. -/
def lexerSplitsCard : Claim7 := { stood := { row := lexerSplitsRow, standIns := [], harness := (true, "08a089a0dbaa55523887d198cf46f4c439181aaede2ff20b90b45caf19d7c27e"), looks := true }, kinds := [], alts := [], laidByText := true, laidKinds := [.data, .data, .data, .data, .sentinel, .sentinel, .pinned], laidTests := true, laidLooks := .later }
def LexerSplitsCardSaid : Prop := Claim7.holds Tryz.pinned (.plain (OpenSpec.ofChange lexerSplitsSpec)) lexerSplitsCard

/-- THE TIED CARD OF 'metrolablaw14.LexerDigits'. -/
def lexerDigitsCard : Claim7 := { stood := { row := lexerDigitsRow, standIns := [], harness := (true, "08a089a0dbaa55523887d198cf46f4c439181aaede2ff20b90b45caf19d7c27e"), looks := true }, kinds := [], alts := [], laidByText := true, laidKinds := [.data, .data, .data, .data, .sentinel, .sentinel, .pinned], laidTests := true, laidLooks := .later }
def LexerDigitsCardSaid : Prop := Claim7.holds Tryz.pinned (.plain (OpenSpec.ofChange lexerDigitsSpec)) lexerDigitsCard

/-- THE SECOND FORM's CARD OF 'metrolablaw14.LexerWords'. -/
def lexerWordsUptoCard : Claim7 := { stood := { row := lexerWordsUptoRow, standIns := [], harness := (true, "08a089a0dbaa55523887d198cf46f4c439181aaede2ff20b90b45caf19d7c27e"), looks := true }, kinds := [], alts := [], laidByText := true, laidKinds := [.data, .data, .data, .data, .sentinel, .sentinel, .pinned], laidTests := true, laidLooks := .later }
def LexerWordsUptoCardSaid : Prop := Claim7.holds Tryz.pinned (.plain (OpenSpec.upto lexerWordsSpec)) lexerWordsUptoCard

/-- THE SECOND FORM's CARD OF 'metrolablaw14.LexerScans'. -/
def lexerScansUptoCard : Claim7 := { stood := { row := lexerScansUptoRow, standIns := [], harness := (true, "08a089a0dbaa55523887d198cf46f4c439181aaede2ff20b90b45caf19d7c27e"), looks := true }, kinds := [], alts := [], laidByText := true, laidKinds := [.data, .data, .data, .data, .sentinel, .sentinel, .pinned], laidTests := true, laidLooks := .later }
def LexerScansUptoCardSaid : Prop := Claim7.holds Tryz.pinned (.plain (OpenSpec.upto lexerScansSpec)) lexerScansUptoCard

/-- THE SECOND FORM's CARD OF 'metrolablaw14.LexerJoins'. -/
def lexerJoinsUptoCard : Claim7 := { stood := { row := lexerJoinsUptoRow, standIns := [], harness := (true, "08a089a0dbaa55523887d198cf46f4c439181aaede2ff20b90b45caf19d7c27e"), looks := true }, kinds := [], alts := [], laidByText := true, laidKinds := [.data, .data, .data, .data, .sentinel, .sentinel, .pinned], laidTests := true, laidLooks := .later }
def LexerJoinsUptoCardSaid : Prop := Claim7.holds Tryz.pinned (.plain (OpenSpec.upto lexerJoinsSpec)) lexerJoinsUptoCard

/-- THE SECOND FORM's CARD OF 'metrolablaw14.LexerValues'. -/
def lexerValuesUptoCard : Claim7 := { stood := { row := lexerValuesUptoRow, standIns := [], harness := (true, "08a089a0dbaa55523887d198cf46f4c439181aaede2ff20b90b45caf19d7c27e"), looks := true }, kinds := [], alts := [], laidByText := true, laidKinds := [.data, .data, .data, .data, .sentinel, .sentinel, .pinned], laidTests := true, laidLooks := .later }
def LexerValuesUptoCardSaid : Prop := Claim7.holds Tryz.pinned (.plain (OpenSpec.upto lexerValuesSpec)) lexerValuesUptoCard

/-- THE SECOND FORM's CARD OF 'metrolablaw14.LexerCovers'. -/
def lexerCoversUptoCard : Claim7 := { stood := { row := lexerCoversUptoRow, standIns := [], harness := (true, "08a089a0dbaa55523887d198cf46f4c439181aaede2ff20b90b45caf19d7c27e"), looks := true }, kinds := [], alts := [], laidByText := true, laidKinds := [.data, .data, .data, .data, .sentinel, .sentinel, .pinned], laidTests := true, laidLooks := .later }
def LexerCoversUptoCardSaid : Prop := Claim7.holds Tryz.pinned (.plain (OpenSpec.upto lexerCoversSpec)) lexerCoversUptoCard

/-- THE SECOND FORM's CARD OF 'metrolablaw14.LexerNormal'. -/
def lexerNormalUptoCard : Claim7 := { stood := { row := lexerNormalUptoRow, standIns := [], harness := (true, "08a089a0dbaa55523887d198cf46f4c439181aaede2ff20b90b45caf19d7c27e"), looks := true }, kinds := [], alts := [], laidByText := true, laidKinds := [.data, .data, .data, .data, .sentinel, .sentinel, .pinned], laidTests := true, laidLooks := .later }
def LexerNormalUptoCardSaid : Prop := Claim7.holds Tryz.pinned (.plain (OpenSpec.upto lexerNormalSpec)) lexerNormalUptoCard

/-- THE SECOND FORM's CARD OF 'metrolablaw14.LexerParts'. -/
def lexerPartsUptoCard : Claim7 := { stood := { row := lexerPartsUptoRow, standIns := [], harness := (true, "08a089a0dbaa55523887d198cf46f4c439181aaede2ff20b90b45caf19d7c27e"), looks := true }, kinds := [], alts := [], laidByText := true, laidKinds := [.data, .data, .data, .data, .sentinel, .sentinel, .pinned], laidTests := true, laidLooks := .later }
def LexerPartsUptoCardSaid : Prop := Claim7.holds Tryz.pinned (.plain (OpenSpec.upto lexerPartsSpec)) lexerPartsUptoCard

/-- THE SECOND FORM's CARD OF 'metrolablaw14.LexerSplits'. -/
def lexerSplitsUptoCard : Claim7 := { stood := { row := lexerSplitsUptoRow, standIns := [], harness := (true, "08a089a0dbaa55523887d198cf46f4c439181aaede2ff20b90b45caf19d7c27e"), looks := true }, kinds := [], alts := [], laidByText := true, laidKinds := [.data, .data, .data, .data, .sentinel, .sentinel, .pinned], laidTests := true, laidLooks := .later }
def LexerSplitsUptoCardSaid : Prop := Claim7.holds Tryz.pinned (.plain (OpenSpec.upto lexerSplitsSpec)) lexerSplitsUptoCard

/-- THE SECOND FORM's CARD OF 'metrolablaw14.LexerDigits'. -/
def lexerDigitsUptoCard : Claim7 := { stood := { row := lexerDigitsUptoRow, standIns := [], harness := (true, "08a089a0dbaa55523887d198cf46f4c439181aaede2ff20b90b45caf19d7c27e"), looks := true }, kinds := [], alts := [], laidByText := true, laidKinds := [.data, .data, .data, .data, .sentinel, .sentinel, .pinned], laidTests := true, laidLooks := .later }
def LexerDigitsUptoCardSaid : Prop := Claim7.holds Tryz.pinned (.plain (OpenSpec.upto lexerDigitsSpec)) lexerDigitsUptoCard
end Rows
end Go.Proofs.YtfjgehlpjppggaaGreatDoor
