/-
  DERIVED. GIVEN WITH THE SEED: THE CARDS: each row of YtnkdndjhgoahgaaGreatDoorRows.lean that lists a variable, with what it lists TIED to the program's text (the seventh form; the later family's looks); each row that meets fmt, with fmt's text TOLD by the authors' own Lean function (tested against real Go, not proved from fmt's source: count such statements apart). THE CARD IS WHAT COUNTS. Prove the row's statement (the work); the ties are given (YtnkdndjhgoahgaaGreatDoorTie.lean); close each card by the builder's one call (the guide's Derived/Test/ToyasCard.lean, 'card_holds'). Laid BY PROGRAM, IN A SANDBOX (cutbox-door.mjs). By AI agents, Wed Nov 11 2026. No macro, syntax, notation, axiom, sorry.
-/
import Derived.Test.YtnkdndjhgoahgaaGreatDoorRows
import GoSem.ClaimSeven
namespace Go.Proofs.YtnkdndjhgoahgaaGreatDoor
namespace Rows

/-- THE TIED CARD OF 'metrolablaw15.GradesReads'. -/
def gradesReadsCard : Claim7 := { stood := { row := gradesReadsRow, standIns := [], harness := (true, "3fb7fd4e28bc200ae2f9aa17cb1c0aae5d0a6a62a56c113a6807d8d862b85ccf"), looks := true }, kinds := [], alts := [], laidByText := true, laidKinds := [.data, .data, .data, .data, .sentinel, .sentinel, .pinned, .pinned], laidTests := true, laidLooks := .later }
def GradesReadsCardSaid : Prop := Claim7.holds Tryz.pinned (.plain (OpenSpec.ofChange gradesReadsSpec)) gradesReadsCard

/-- THE TIED CARD OF 'metrolablaw15.GradesDeviates'. -/
def gradesDeviatesCard : Claim7 := { stood := { row := gradesDeviatesRow, standIns := [], harness := (true, "3fb7fd4e28bc200ae2f9aa17cb1c0aae5d0a6a62a56c113a6807d8d862b85ccf"), looks := true }, kinds := [], alts := [], laidByText := true, laidKinds := [.data, .data, .data, .data, .sentinel, .sentinel, .pinned, .pinned], laidTests := true, laidLooks := .later }
def GradesDeviatesCardSaid : Prop := Claim7.holds Tryz.pinned (.plain (OpenSpec.ofChange gradesDeviatesSpec)) gradesDeviatesCard

/-- THE TIED CARD OF 'metrolablaw15.GradesMirrors'. -/
def gradesMirrorsCard : Claim7 := { stood := { row := gradesMirrorsRow, standIns := [], harness := (true, "3fb7fd4e28bc200ae2f9aa17cb1c0aae5d0a6a62a56c113a6807d8d862b85ccf"), looks := true }, kinds := [], alts := [], laidByText := true, laidKinds := [.data, .data, .data, .data, .sentinel, .sentinel, .pinned, .pinned], laidTests := true, laidLooks := .later }
def GradesMirrorsCardSaid : Prop := Claim7.holds Tryz.pinned (.plain (OpenSpec.ofChange gradesMirrorsSpec)) gradesMirrorsCard

/-- THE TIED CARD OF 'metrolablaw15.GradesMeasures'. -/
def gradesMeasuresCard : Claim7 := { stood := { row := gradesMeasuresRow, standIns := [], harness := (true, "3fb7fd4e28bc200ae2f9aa17cb1c0aae5d0a6a62a56c113a6807d8d862b85ccf"), looks := true }, kinds := [], alts := [], laidByText := true, laidKinds := [.data, .data, .data, .data, .sentinel, .sentinel, .pinned, .pinned], laidTests := true, laidLooks := .later }
def GradesMeasuresCardSaid : Prop := Claim7.holds Tryz.pinned (.plain (OpenSpec.ofChange gradesMeasuresSpec)) gradesMeasuresCard

/-- THE TIED CARD OF 'metrolablaw15.GradesFinds'. -/
def gradesFindsCard : Claim7 := { stood := { row := gradesFindsRow, standIns := [], harness := (true, "3fb7fd4e28bc200ae2f9aa17cb1c0aae5d0a6a62a56c113a6807d8d862b85ccf"), looks := true }, kinds := [], alts := [], laidByText := true, laidKinds := [.data, .data, .data, .data, .sentinel, .sentinel, .pinned, .pinned], laidTests := true, laidLooks := .later }
def GradesFindsCardSaid : Prop := Claim7.holds Tryz.pinned (.plain (OpenSpec.ofChange gradesFindsSpec)) gradesFindsCard

/-- THE TIED CARD OF 'metrolablaw15.GradesReturns'. -/
def gradesReturnsCard : Claim7 := { stood := { row := gradesReturnsRow, standIns := [], harness := (true, "3fb7fd4e28bc200ae2f9aa17cb1c0aae5d0a6a62a56c113a6807d8d862b85ccf"), looks := true }, kinds := [], alts := [], laidByText := true, laidKinds := [.data, .data, .data, .data, .sentinel, .sentinel, .pinned, .pinned], laidTests := true, laidLooks := .later }
def GradesReturnsCardSaid : Prop := Claim7.holds Tryz.pinned (.plain (OpenSpec.ofChange gradesReturnsSpec)) gradesReturnsCard

/-- THE SECOND FORM's CARD OF 'metrolablaw15.GradesReads'. -/
def gradesReadsUptoCard : Claim7 := { stood := { row := gradesReadsUptoRow, standIns := [], harness := (true, "3fb7fd4e28bc200ae2f9aa17cb1c0aae5d0a6a62a56c113a6807d8d862b85ccf"), looks := true }, kinds := [], alts := [], laidByText := true, laidKinds := [.data, .data, .data, .data, .sentinel, .sentinel, .pinned, .pinned], laidTests := true, laidLooks := .later }
def GradesReadsUptoCardSaid : Prop := Claim7.holds Tryz.pinned (.plain (OpenSpec.upto gradesReadsSpec)) gradesReadsUptoCard

/-- THE SECOND FORM's CARD OF 'metrolablaw15.GradesDeviates'. -/
def gradesDeviatesUptoCard : Claim7 := { stood := { row := gradesDeviatesUptoRow, standIns := [], harness := (true, "3fb7fd4e28bc200ae2f9aa17cb1c0aae5d0a6a62a56c113a6807d8d862b85ccf"), looks := true }, kinds := [], alts := [], laidByText := true, laidKinds := [.data, .data, .data, .data, .sentinel, .sentinel, .pinned, .pinned], laidTests := true, laidLooks := .later }
def GradesDeviatesUptoCardSaid : Prop := Claim7.holds Tryz.pinned (.plain (OpenSpec.upto gradesDeviatesSpec)) gradesDeviatesUptoCard

/-- THE SECOND FORM's CARD OF 'metrolablaw15.GradesMirrors'. -/
def gradesMirrorsUptoCard : Claim7 := { stood := { row := gradesMirrorsUptoRow, standIns := [], harness := (true, "3fb7fd4e28bc200ae2f9aa17cb1c0aae5d0a6a62a56c113a6807d8d862b85ccf"), looks := true }, kinds := [], alts := [], laidByText := true, laidKinds := [.data, .data, .data, .data, .sentinel, .sentinel, .pinned, .pinned], laidTests := true, laidLooks := .later }
def GradesMirrorsUptoCardSaid : Prop := Claim7.holds Tryz.pinned (.plain (OpenSpec.upto gradesMirrorsSpec)) gradesMirrorsUptoCard

/-- THE SECOND FORM's CARD OF 'metrolablaw15.GradesMeasures'. -/
def gradesMeasuresUptoCard : Claim7 := { stood := { row := gradesMeasuresUptoRow, standIns := [], harness := (true, "3fb7fd4e28bc200ae2f9aa17cb1c0aae5d0a6a62a56c113a6807d8d862b85ccf"), looks := true }, kinds := [], alts := [], laidByText := true, laidKinds := [.data, .data, .data, .data, .sentinel, .sentinel, .pinned, .pinned], laidTests := true, laidLooks := .later }
def GradesMeasuresUptoCardSaid : Prop := Claim7.holds Tryz.pinned (.plain (OpenSpec.upto gradesMeasuresSpec)) gradesMeasuresUptoCard

/-- THE SECOND FORM's CARD OF 'metrolablaw15.GradesFinds'. -/
def gradesFindsUptoCard : Claim7 := { stood := { row := gradesFindsUptoRow, standIns := [], harness := (true, "3fb7fd4e28bc200ae2f9aa17cb1c0aae5d0a6a62a56c113a6807d8d862b85ccf"), looks := true }, kinds := [], alts := [], laidByText := true, laidKinds := [.data, .data, .data, .data, .sentinel, .sentinel, .pinned, .pinned], laidTests := true, laidLooks := .later }
def GradesFindsUptoCardSaid : Prop := Claim7.holds Tryz.pinned (.plain (OpenSpec.upto gradesFindsSpec)) gradesFindsUptoCard

/-- THE SECOND FORM's CARD OF 'metrolablaw15.GradesReturns'. -/
def gradesReturnsUptoCard : Claim7 := { stood := { row := gradesReturnsUptoRow, standIns := [], harness := (true, "3fb7fd4e28bc200ae2f9aa17cb1c0aae5d0a6a62a56c113a6807d8d862b85ccf"), looks := true }, kinds := [], alts := [], laidByText := true, laidKinds := [.data, .data, .data, .data, .sentinel, .sentinel, .pinned, .pinned], laidTests := true, laidLooks := .later }
def GradesReturnsUptoCardSaid : Prop := Claim7.holds Tryz.pinned (.plain (OpenSpec.upto gradesReturnsSpec)) gradesReturnsUptoCard
end Rows
end Go.Proofs.YtnkdndjhgoahgaaGreatDoor
