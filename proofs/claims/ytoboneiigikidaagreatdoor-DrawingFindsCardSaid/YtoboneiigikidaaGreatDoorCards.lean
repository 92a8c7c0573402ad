/-
  DERIVED. GIVEN WITH THE SEED: THE CARDS: each row of YtoboneiigikidaaGreatDoorRows.lean that lists a variable, with what it lists TIED to the program's text (the seventh form; the later family's looks); each row that meets fmt, with fmt's text TOLD by the authors' own Lean function (tested against real Go, not proved from fmt's source: count such statements apart). THE CARD IS WHAT COUNTS. Prove the row's statement (the work); the ties are given (YtoboneiigikidaaGreatDoorTie.lean); close each card by the builder's one call (the guide's Derived/Test/ToyasCard.lean, 'card_holds'). Laid BY PROGRAM, IN A SANDBOX (cutbox-door.mjs). By AI agents, Wed Nov 11 2026. No macro, syntax, notation, axiom, sorry.
-/
import Derived.Test.YtoboneiigikidaaGreatDoorRows
import GoSem.ClaimSeven
namespace Go.Proofs.YtoboneiigikidaaGreatDoor
namespace Rows

/-- THE TIED CARD OF 'metrolablaw20.DrawingChecks'. -/
def drawingChecksCard : Claim7 := { stood := { row := drawingChecksRow, standIns := [], harness := (true, "ae1d8e01034119345f465421b2f8d9eceee416c261163a4b62e7af22f47315c2"), looks := true }, kinds := [], alts := [], laidByText := true, laidKinds := [.data, .data, .data, .data, .sentinel, .sentinel, .pinned], laidTests := true, laidLooks := .later }
def DrawingChecksCardSaid : Prop := Claim7.holds Tryz.pinned (.plain (OpenSpec.ofChange drawingChecksSpec)) drawingChecksCard

/-- THE TIED CARD OF 'metrolablaw20.DrawingParses'. -/
def drawingParsesCard : Claim7 := { stood := { row := drawingParsesRow, standIns := [], harness := (true, "ae1d8e01034119345f465421b2f8d9eceee416c261163a4b62e7af22f47315c2"), looks := true }, kinds := [], alts := [], laidByText := true, laidKinds := [.data, .data, .data, .data, .sentinel, .sentinel, .pinned], laidTests := true, laidLooks := .later }
def DrawingParsesCardSaid : Prop := Claim7.holds Tryz.pinned (.plain (OpenSpec.ofChange drawingParsesSpec)) drawingParsesCard

/-- THE TIED CARD OF 'metrolablaw20.DrawingDepends'. -/
def drawingDependsCard : Claim7 := { stood := { row := drawingDependsRow, standIns := [], harness := (true, "ae1d8e01034119345f465421b2f8d9eceee416c261163a4b62e7af22f47315c2"), looks := true }, kinds := [], alts := [], laidByText := true, laidKinds := [.data, .data, .data, .data, .sentinel, .sentinel, .pinned], laidTests := true, laidLooks := .later }
def DrawingDependsCardSaid : Prop := Claim7.holds Tryz.pinned (.plain (OpenSpec.ofChange drawingDependsSpec)) drawingDependsCard

/-- THE TIED CARD OF 'metrolablaw20.DrawingSwaps'. -/
def drawingSwapsCard : Claim7 := { stood := { row := drawingSwapsRow, standIns := [], harness := (true, "ae1d8e01034119345f465421b2f8d9eceee416c261163a4b62e7af22f47315c2"), looks := true }, kinds := [], alts := [], laidByText := true, laidKinds := [.data, .data, .data, .data, .sentinel, .sentinel, .pinned], laidTests := true, laidLooks := .later }
def DrawingSwapsCardSaid : Prop := Claim7.holds Tryz.pinned (.plain (OpenSpec.ofChange drawingSwapsSpec)) drawingSwapsCard

/-- THE TIED CARD OF 'metrolablaw20.DrawingFinds'. -/
def drawingFindsCard : Claim7 := { stood := { row := drawingFindsRow, standIns := [], harness := (true, "ae1d8e01034119345f465421b2f8d9eceee416c261163a4b62e7af22f47315c2"), looks := true }, kinds := [], alts := [], laidByText := true, laidKinds := [.data, .data, .data, .data, .sentinel, .sentinel, .pinned], laidTests := true, laidLooks := .later }
def DrawingFindsCardSaid : Prop := Claim7.holds Tryz.pinned (.plain (OpenSpec.ofChange drawingFindsSpec)) drawingFindsCard

/-- THE TIED CARD OF 'metrolablaw20.DrawingReturns'. -/
def drawingReturnsCard : Claim7 := { stood := { row := drawingReturnsRow, standIns := [], harness := (true, "ae1d8e01034119345f465421b2f8d9eceee416c261163a4b62e7af22f47315c2"), looks := true }, kinds := [], alts := [], laidByText := true, laidKinds := [.data, .data, .data, .data, .sentinel, .sentinel, .pinned], laidTests := true, laidLooks := .later }
def DrawingReturnsCardSaid : Prop := Claim7.holds Tryz.pinned (.plain (OpenSpec.ofChange drawingReturnsSpec)) drawingReturnsCard

/-- THE SECOND FORM's CARD OF 'metrolablaw20.DrawingChecks'. -/
def drawingChecksUptoCard : Claim7 := { stood := { row := drawingChecksUptoRow, standIns := [], harness := (true, "ae1d8e01034119345f465421b2f8d9eceee416c261163a4b62e7af22f47315c2"), looks := true }, kinds := [], alts := [], laidByText := true, laidKinds := [.data, .data, .data, .data, .sentinel, .sentinel, .pinned], laidTests := true, laidLooks := .later }
def DrawingChecksUptoCardSaid : Prop := Claim7.holds Tryz.pinned (.plain (OpenSpec.upto drawingChecksSpec)) drawingChecksUptoCard

/-- THE SECOND FORM's CARD OF 'metrolablaw20.DrawingParses'. -/
def drawingParsesUptoCard : Claim7 := { stood := { row := drawingParsesUptoRow, standIns := [], harness := (true, "ae1d8e01034119345f465421b2f8d9eceee416c261163a4b62e7af22f47315c2"), looks := true }, kinds := [], alts := [], laidByText := true, laidKinds := [.data, .data, .data, .data, .sentinel, .sentinel, .pinned], laidTests := true, laidLooks := .later }
def DrawingParsesUptoCardSaid : Prop := Claim7.holds Tryz.pinned (.plain (OpenSpec.upto drawingParsesSpec)) drawingParsesUptoCard

/-- THE SECOND FORM's CARD OF 'metrolablaw20.DrawingDepends'. -/
def drawingDependsUptoCard : Claim7 := { stood := { row := drawingDependsUptoRow, standIns := [], harness := (true, "ae1d8e01034119345f465421b2f8d9eceee416c261163a4b62e7af22f47315c2"), looks := true }, kinds := [], alts := [], laidByText := true, laidKinds := [.data, .data, .data, .data, .sentinel, .sentinel, .pinned], laidTests := true, laidLooks := .later }
def DrawingDependsUptoCardSaid : Prop := Claim7.holds Tryz.pinned (.plain (OpenSpec.upto drawingDependsSpec)) drawingDependsUptoCard

/-- THE SECOND FORM's CARD OF 'metrolablaw20.DrawingSwaps'. -/
def drawingSwapsUptoCard : Claim7 := { stood := { row := drawingSwapsUptoRow, standIns := [], harness := (true, "ae1d8e01034119345f465421b2f8d9eceee416c261163a4b62e7af22f47315c2"), looks := true }, kinds := [], alts := [], laidByText := true, laidKinds := [.data, .data, .data, .data, .sentinel, .sentinel, .pinned], laidTests := true, laidLooks := .later }
def DrawingSwapsUptoCardSaid : Prop := Claim7.holds Tryz.pinned (.plain (OpenSpec.upto drawingSwapsSpec)) drawingSwapsUptoCard

/-- THE SECOND FORM's CARD OF 'metrolablaw20.DrawingFinds'. -/
def drawingFindsUptoCard : Claim7 := { stood := { row := drawingFindsUptoRow, standIns := [], harness := (true, "ae1d8e01034119345f465421b2f8d9eceee416c261163a4b62e7af22f47315c2"), looks := true }, kinds := [], alts := [], laidByText := true, laidKinds := [.data, .data, .data, .data, .sentinel, .sentinel, .pinned], laidTests := true, laidLooks := .later }
def DrawingFindsUptoCardSaid : Prop := Claim7.holds Tryz.pinned (.plain (OpenSpec.upto drawingFindsSpec)) drawingFindsUptoCard

/-- THE SECOND FORM's CARD OF 'metrolablaw20.DrawingReturns'. -/
def drawingReturnsUptoCard : Claim7 := { stood := { row := drawingReturnsUptoRow, standIns := [], harness := (true, "ae1d8e01034119345f465421b2f8d9eceee416c261163a4b62e7af22f47315c2"), looks := true }, kinds := [], alts := [], laidByText := true, laidKinds := [.data, .data, .data, .data, .sentinel, .sentinel, .pinned], laidTests := true, laidLooks := .later }
def DrawingReturnsUptoCardSaid : Prop := Claim7.holds Tryz.pinned (.plain (OpenSpec.upto drawingReturnsSpec)) drawingReturnsUptoCard
end Rows
end Go.Proofs.YtoboneiigikidaaGreatDoor
