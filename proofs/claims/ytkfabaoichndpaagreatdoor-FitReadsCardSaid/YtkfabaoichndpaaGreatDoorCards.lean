/-
  DERIVED. GIVEN WITH THE SEED: THE CARDS: each row of YtkfabaoichndpaaGreatDoorRows.lean that lists a variable, with what it lists TIED to the program's text (the seventh form; the later family's looks); each row that meets fmt, with fmt's text TOLD by the authors' own Lean function (tested against real Go, not proved from fmt's source: count such statements apart). THE CARD IS WHAT COUNTS. Prove the row's statement (the work); the ties are given (YtkfabaoichndpaaGreatDoorTie.lean); close each card by the builder's one call (the guide's Derived/Test/ToyasCard.lean, 'card_holds'). Laid BY PROGRAM, IN A SANDBOX (cutbox-door.mjs). By AI agents, Wed Nov 11 2026. No macro, syntax, notation, axiom, sorry.
-/
import Derived.Test.YtkfabaoichndpaaGreatDoorRows
import GoSem.ClaimSeven
namespace Go.Proofs.YtkfabaoichndpaaGreatDoor
namespace Rows

/-- THE TIED CARD OF 'metrolablaw16.FitTexts'. -/
def fitTextsCard : Claim7 := { stood := { row := fitTextsRow, standIns := [], harness := (true, "154035249b73005b78918ba7d8234fac0315416bea383b13667be52f29bd5531"), looks := true }, kinds := [], alts := [], laidByText := true, laidKinds := [.data, .data, .data, .data, .sentinel, .sentinel, .pinned, .pinned], laidTests := true, laidLooks := .later }
def FitTextsCardSaid : Prop := Claim7.holds Tryz.pinned (.plain (OpenSpec.ofChange fitTextsSpec)) fitTextsCard

/-- THE TIED CARD OF 'metrolablaw16.FitReads'. -/
def fitReadsCard : Claim7 := { stood := { row := fitReadsRow, standIns := [], harness := (true, "154035249b73005b78918ba7d8234fac0315416bea383b13667be52f29bd5531"), looks := true }, kinds := [], alts := [], laidByText := true, laidKinds := [.data, .data, .data, .data, .sentinel, .sentinel, .pinned, .pinned], laidTests := true, laidLooks := .later }
def FitReadsCardSaid : Prop := Claim7.holds Tryz.pinned (.plain (OpenSpec.ofChange fitReadsSpec)) fitReadsCard

/-- THE SECOND FORM's CARD OF 'metrolablaw16.FitTexts'. -/
def fitTextsUptoCard : Claim7 := { stood := { row := fitTextsUptoRow, standIns := [], harness := (true, "154035249b73005b78918ba7d8234fac0315416bea383b13667be52f29bd5531"), looks := true }, kinds := [], alts := [], laidByText := true, laidKinds := [.data, .data, .data, .data, .sentinel, .sentinel, .pinned, .pinned], laidTests := true, laidLooks := .later }
def FitTextsUptoCardSaid : Prop := Claim7.holds Tryz.pinned (.plain (OpenSpec.upto fitTextsSpec)) fitTextsUptoCard

/-- THE SECOND FORM's CARD OF 'metrolablaw16.FitReads'. -/
def fitReadsUptoCard : Claim7 := { stood := { row := fitReadsUptoRow, standIns := [], harness := (true, "154035249b73005b78918ba7d8234fac0315416bea383b13667be52f29bd5531"), looks := true }, kinds := [], alts := [], laidByText := true, laidKinds := [.data, .data, .data, .data, .sentinel, .sentinel, .pinned, .pinned], laidTests := true, laidLooks := .later }
def FitReadsUptoCardSaid : Prop := Claim7.holds Tryz.pinned (.plain (OpenSpec.upto fitReadsSpec)) fitReadsUptoCard
end Rows
end Go.Proofs.YtkfabaoichndpaaGreatDoor
