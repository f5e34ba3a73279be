/-
  DERIVED. GIVEN WITH THE SEED: THE CARDS: each row of YtagmibogginaaaaGreatDoorRows.lean that lists a variable, with what it lists TIED to the program's text (the seventh form; the later family's looks); each row that meets fmt, with fmt's text TOLD by the authors' own Lean function (tested against real Go, not proved from fmt's source: count such statements apart). THE CARD IS WHAT COUNTS. Prove the row's statement (the work); the ties are given (YtagmibogginaaaaGreatDoorTie.lean); close each card by the builder's one call (the guide's Derived/Test/ToyasCard.lean, 'card_holds'). Laid BY PROGRAM, IN A SANDBOX (cutbox-door.mjs). By AI agents, Wed Nov 11 2026. No macro, syntax, notation, axiom, sorry.
-/
import Derived.Test.YtagmibogginaaaaGreatDoorRows
import GoSem.ClaimSeven
namespace Go.Proofs.YtagmibogginaaaaGreatDoor
namespace Rows

/-- THE TIED CARD OF 'reachlaw5.ExprChecks'. -/
def exprChecksCard : Claim7 := { stood := { row := exprChecksRow, standIns := [], harness := (true, "ee2fd1db01eccfde1764c73bc1799eefdeb59c5a7ccfa920c48ed61ec7ee580a"), looks := true }, kinds := [], alts := [], laidByText := true, laidKinds := [.data, .data, .pinned], laidTests := true, laidLooks := .later }
def ExprChecksCardSaid : Prop := Claim7.holds Tryz.pinned (.plain (OpenSpec.ofChange exprChecksSpec)) exprChecksCard

/-- THE TIED CARD OF 'reachlaw5.ExprEvals'. -/
def exprEvalsCard : Claim7 := { stood := { row := exprEvalsRow, standIns := [], harness := (true, "ee2fd1db01eccfde1764c73bc1799eefdeb59c5a7ccfa920c48ed61ec7ee580a"), looks := true }, kinds := [], alts := [], laidByText := true, laidKinds := [.data, .data, .pinned], laidTests := true, laidLooks := .later }
def ExprEvalsCardSaid : Prop := Claim7.holds Tryz.pinned (.plain (OpenSpec.ofChange exprEvalsSpec)) exprEvalsCard

/-- THE TIED CARD OF 'reachlaw5.ExprSpaces'. -/
def exprSpacesCard : Claim7 := { stood := { row := exprSpacesRow, standIns := [], harness := (true, "ee2fd1db01eccfde1764c73bc1799eefdeb59c5a7ccfa920c48ed61ec7ee580a"), looks := true }, kinds := [], alts := [], laidByText := true, laidKinds := [.data, .data, .pinned], laidTests := true, laidLooks := .later }
def ExprSpacesCardSaid : Prop := Claim7.holds Tryz.pinned (.plain (OpenSpec.ofChange exprSpacesSpec)) exprSpacesCard

/-- THE SECOND FORM's CARD OF 'reachlaw5.ExprChecks'. -/
def exprChecksUptoCard : Claim7 := { stood := { row := exprChecksUptoRow, standIns := [], harness := (true, "ee2fd1db01eccfde1764c73bc1799eefdeb59c5a7ccfa920c48ed61ec7ee580a"), looks := true }, kinds := [], alts := [], laidByText := true, laidKinds := [.data, .data, .pinned], laidTests := true, laidLooks := .later }
def ExprChecksUptoCardSaid : Prop := Claim7.holds Tryz.pinned (.plain (OpenSpec.upto exprChecksSpec)) exprChecksUptoCard

/-- THE SECOND FORM's CARD OF 'reachlaw5.ExprEvals'. -/
def exprEvalsUptoCard : Claim7 := { stood := { row := exprEvalsUptoRow, standIns := [], harness := (true, "ee2fd1db01eccfde1764c73bc1799eefdeb59c5a7ccfa920c48ed61ec7ee580a"), looks := true }, kinds := [], alts := [], laidByText := true, laidKinds := [.data, .data, .pinned], laidTests := true, laidLooks := .later }
def ExprEvalsUptoCardSaid : Prop := Claim7.holds Tryz.pinned (.plain (OpenSpec.upto exprEvalsSpec)) exprEvalsUptoCard

/-- THE SECOND FORM's CARD OF 'reachlaw5.ExprSpaces'. -/
def exprSpacesUptoCard : Claim7 := { stood := { row := exprSpacesUptoRow, standIns := [], harness := (true, "ee2fd1db01eccfde1764c73bc1799eefdeb59c5a7ccfa920c48ed61ec7ee580a"), looks := true }, kinds := [], alts := [], laidByText := true, laidKinds := [.data, .data, .pinned], laidTests := true, laidLooks := .later }
def ExprSpacesUptoCardSaid : Prop := Claim7.holds Tryz.pinned (.plain (OpenSpec.upto exprSpacesSpec)) exprSpacesUptoCard
end Rows
end Go.Proofs.YtagmibogginaaaaGreatDoor
