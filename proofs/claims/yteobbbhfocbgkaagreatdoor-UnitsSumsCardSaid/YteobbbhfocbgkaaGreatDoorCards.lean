/-
  DERIVED. GIVEN WITH THE SEED: THE CARDS: each row of YteobbbhfocbgkaaGreatDoorRows.lean that lists a variable, with what it lists TIED to the program's text (the seventh form; the later family's looks); each row that meets fmt, with fmt's text TOLD by the authors' own Lean function (tested against real Go, not proved from fmt's source: count such statements apart). THE CARD IS WHAT COUNTS. Prove the row's statement (the work); the ties are given (YteobbbhfocbgkaaGreatDoorTie.lean); close each card by the builder's one call (the guide's Derived/Test/ToyasCard.lean, 'card_holds'). Laid BY PROGRAM, IN A SANDBOX (cutbox-door.mjs). By AI agents, Wed Nov 11 2026. No macro, syntax, notation, axiom, sorry.
-/
import Derived.Test.YteobbbhfocbgkaaGreatDoorRows
import GoSem.ClaimSeven
namespace Go.Proofs.YteobbbhfocbgkaaGreatDoor
namespace Rows

/-- THE TIED CARD OF 'metrolablaw13.UnitsReads'. -/
def unitsReadsCard : Claim7 := { stood := { row := unitsReadsRow, standIns := [], harness := (true, "12537375a9ed83f9f502f2eeb21283778c2d620f36871a86aa64515a960ebf7a"), looks := true }, kinds := [], alts := [], laidByText := true, laidKinds := [.data, .data, .data, .data, .sentinel, .sentinel, .pinned], laidTests := true, laidLooks := .later }
def UnitsReadsCardSaid : Prop := Claim7.holds Tryz.pinned (.plain (OpenSpec.ofChange unitsReadsSpec)) unitsReadsCard

/-- THE TIED CARD OF 'metrolablaw13.UnitsWords'. -/
def unitsWordsCard : Claim7 := { stood := { row := unitsWordsRow, standIns := [], harness := (true, "12537375a9ed83f9f502f2eeb21283778c2d620f36871a86aa64515a960ebf7a"), looks := true }, kinds := [], alts := [], laidByText := true, laidKinds := [.data, .data, .data, .data, .sentinel, .sentinel, .pinned], laidTests := true, laidLooks := .later }
def UnitsWordsCardSaid : Prop := Claim7.holds Tryz.pinned (.plain (OpenSpec.ofChange unitsWordsSpec)) unitsWordsCard

/-- THE TIED CARD OF 'metrolablaw13.UnitsWrites'. -/
def unitsWritesCard : Claim7 := { stood := { row := unitsWritesRow, standIns := [], harness := (true, "12537375a9ed83f9f502f2eeb21283778c2d620f36871a86aa64515a960ebf7a"), looks := true }, kinds := [], alts := [], laidByText := true, laidKinds := [.data, .data, .data, .data, .sentinel, .sentinel, .pinned], laidTests := true, laidLooks := .later }
def UnitsWritesCardSaid : Prop := Claim7.holds Tryz.pinned (.plain (OpenSpec.ofChange unitsWritesSpec)) unitsWritesCard

/-- THE TIED CARD OF 'metrolablaw13.UnitsSums'. -/
def unitsSumsCard : Claim7 := { stood := { row := unitsSumsRow, standIns := [], harness := (true, "12537375a9ed83f9f502f2eeb21283778c2d620f36871a86aa64515a960ebf7a"), looks := true }, kinds := [], alts := [], laidByText := true, laidKinds := [.data, .data, .data, .data, .sentinel, .sentinel, .pinned], laidTests := true, laidLooks := .later }
def UnitsSumsCardSaid : Prop := Claim7.holds Tryz.pinned (.plain (OpenSpec.ofChange unitsSumsSpec)) unitsSumsCard

/-- THE TIED CARD OF 'metrolablaw13.UnitsScales'. -/
def unitsScalesCard : Claim7 := { stood := { row := unitsScalesRow, standIns := [], harness := (true, "12537375a9ed83f9f502f2eeb21283778c2d620f36871a86aa64515a960ebf7a"), looks := true }, kinds := [], alts := [], laidByText := true, laidKinds := [.data, .data, .data, .data, .sentinel, .sentinel, .pinned], laidTests := true, laidLooks := .later }
def UnitsScalesCardSaid : Prop := Claim7.holds Tryz.pinned (.plain (OpenSpec.ofChange unitsScalesSpec)) unitsScalesCard

/-- THE TIED CARD OF 'metrolablaw13.UnitsParts'. -/
def unitsPartsCard : Claim7 := { stood := { row := unitsPartsRow, standIns := [], harness := (true, "12537375a9ed83f9f502f2eeb21283778c2d620f36871a86aa64515a960ebf7a"), looks := true }, kinds := [], alts := [], laidByText := true, laidKinds := [.data, .data, .data, .data, .sentinel, .sentinel, .pinned], laidTests := true, laidLooks := .later }
def UnitsPartsCardSaid : Prop := Claim7.holds Tryz.pinned (.plain (OpenSpec.ofChange unitsPartsSpec)) unitsPartsCard

/-- THE TIED CARD OF 'metrolablaw13.UnitsReturns'. -/
def unitsReturnsCard : Claim7 := { stood := { row := unitsReturnsRow, standIns := [], harness := (true, "12537375a9ed83f9f502f2eeb21283778c2d620f36871a86aa64515a960ebf7a"), looks := true }, kinds := [], alts := [], laidByText := true, laidKinds := [.data, .data, .data, .data, .sentinel, .sentinel, .pinned], laidTests := true, laidLooks := .later }
def UnitsReturnsCardSaid : Prop := Claim7.holds Tryz.pinned (.plain (OpenSpec.ofChange unitsReturnsSpec)) unitsReturnsCard

/-- THE SECOND FORM's CARD OF 'metrolablaw13.UnitsReads'. -/
def unitsReadsUptoCard : Claim7 := { stood := { row := unitsReadsUptoRow, standIns := [], harness := (true, "12537375a9ed83f9f502f2eeb21283778c2d620f36871a86aa64515a960ebf7a"), looks := true }, kinds := [], alts := [], laidByText := true, laidKinds := [.data, .data, .data, .data, .sentinel, .sentinel, .pinned], laidTests := true, laidLooks := .later }
def UnitsReadsUptoCardSaid : Prop := Claim7.holds Tryz.pinned (.plain (OpenSpec.upto unitsReadsSpec)) unitsReadsUptoCard

/-- THE SECOND FORM's CARD OF 'metrolablaw13.UnitsWords'. -/
def unitsWordsUptoCard : Claim7 := { stood := { row := unitsWordsUptoRow, standIns := [], harness := (true, "12537375a9ed83f9f502f2eeb21283778c2d620f36871a86aa64515a960ebf7a"), looks := true }, kinds := [], alts := [], laidByText := true, laidKinds := [.data, .data, .data, .data, .sentinel, .sentinel, .pinned], laidTests := true, laidLooks := .later }
def UnitsWordsUptoCardSaid : Prop := Claim7.holds Tryz.pinned (.plain (OpenSpec.upto unitsWordsSpec)) unitsWordsUptoCard

/-- THE SECOND FORM's CARD OF 'metrolablaw13.UnitsWrites'. -/
def unitsWritesUptoCard : Claim7 := { stood := { row := unitsWritesUptoRow, standIns := [], harness := (true, "12537375a9ed83f9f502f2eeb21283778c2d620f36871a86aa64515a960ebf7a"), looks := true }, kinds := [], alts := [], laidByText := true, laidKinds := [.data, .data, .data, .data, .sentinel, .sentinel, .pinned], laidTests := true, laidLooks := .later }
def UnitsWritesUptoCardSaid : Prop := Claim7.holds Tryz.pinned (.plain (OpenSpec.upto unitsWritesSpec)) unitsWritesUptoCard

/-- THE SECOND FORM's CARD OF 'metrolablaw13.UnitsSums'. -/
def unitsSumsUptoCard : Claim7 := { stood := { row := unitsSumsUptoRow, standIns := [], harness := (true, "12537375a9ed83f9f502f2eeb21283778c2d620f36871a86aa64515a960ebf7a"), looks := true }, kinds := [], alts := [], laidByText := true, laidKinds := [.data, .data, .data, .data, .sentinel, .sentinel, .pinned], laidTests := true, laidLooks := .later }
def UnitsSumsUptoCardSaid : Prop := Claim7.holds Tryz.pinned (.plain (OpenSpec.upto unitsSumsSpec)) unitsSumsUptoCard

/-- THE SECOND FORM's CARD OF 'metrolablaw13.UnitsScales'. -/
def unitsScalesUptoCard : Claim7 := { stood := { row := unitsScalesUptoRow, standIns := [], harness := (true, "12537375a9ed83f9f502f2eeb21283778c2d620f36871a86aa64515a960ebf7a"), looks := true }, kinds := [], alts := [], laidByText := true, laidKinds := [.data, .data, .data, .data, .sentinel, .sentinel, .pinned], laidTests := true, laidLooks := .later }
def UnitsScalesUptoCardSaid : Prop := Claim7.holds Tryz.pinned (.plain (OpenSpec.upto unitsScalesSpec)) unitsScalesUptoCard

/-- THE SECOND FORM's CARD OF 'metrolablaw13.UnitsParts'. -/
def unitsPartsUptoCard : Claim7 := { stood := { row := unitsPartsUptoRow, standIns := [], harness := (true, "12537375a9ed83f9f502f2eeb21283778c2d620f36871a86aa64515a960ebf7a"), looks := true }, kinds := [], alts := [], laidByText := true, laidKinds := [.data, .data, .data, .data, .sentinel, .sentinel, .pinned], laidTests := true, laidLooks := .later }
def UnitsPartsUptoCardSaid : Prop := Claim7.holds Tryz.pinned (.plain (OpenSpec.upto unitsPartsSpec)) unitsPartsUptoCard

/-- THE SECOND FORM's CARD OF 'metrolablaw13.UnitsReturns'. -/
def unitsReturnsUptoCard : Claim7 := { stood := { row := unitsReturnsUptoRow, standIns := [], harness := (true, "12537375a9ed83f9f502f2eeb21283778c2d620f36871a86aa64515a960ebf7a"), looks := true }, kinds := [], alts := [], laidByText := true, laidKinds := [.data, .data, .data, .data, .sentinel, .sentinel, .pinned], laidTests := true, laidLooks := .later }
def UnitsReturnsUptoCardSaid : Prop := Claim7.holds Tryz.pinned (.plain (OpenSpec.upto unitsReturnsSpec)) unitsReturnsUptoCard
end Rows
end Go.Proofs.YteobbbhfocbgkaaGreatDoor
