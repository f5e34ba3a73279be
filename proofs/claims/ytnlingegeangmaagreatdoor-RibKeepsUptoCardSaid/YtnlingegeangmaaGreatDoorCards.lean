/-
  DERIVED. GIVEN WITH THE SEED: THE CARDS: each row of YtnlingegeangmaaGreatDoorRows.lean that lists a variable, with what it lists TIED to the program's text (the seventh form; the later family's looks); each row that meets fmt, with fmt's text TOLD by the authors' own Lean function (tested against real Go, not proved from fmt's source: count such statements apart). THE CARD IS WHAT COUNTS. Prove the row's statement (the work); the ties are given (YtnlingegeangmaaGreatDoorTie.lean); close each card by the builder's one call (the guide's Derived/Test/ToyasCard.lean, 'card_holds'). Laid BY PROGRAM, IN A SANDBOX (cutbox-door.mjs). By AI agents, Wed Nov 11 2026. No macro, syntax, notation, axiom, sorry.
-/
import Derived.Test.YtnlingegeangmaaGreatDoorRows
import GoSem.ClaimSeven
namespace Go.Proofs.YtnlingegeangmaaGreatDoor
namespace Rows

/-- THE TIED CARD OF 'reachlaw8.RibTables'. -/
def ribTablesCard : Claim7 := { stood := { row := ribTablesRow, standIns := [], harness := (true, "8068309ded801870df5edac077735ba35d6a3b98aa8772bc99d155a4fe76cc96"), looks := true }, kinds := [], alts := [], laidByText := true, laidKinds := [.data, .data, .data, .data, .data, .data, .pinned], laidTests := true, laidLooks := .later }
def RibTablesCardSaid : Prop := Claim7.holds Tryz.pinned (.plain (OpenSpec.ofChange ribTablesSpec)) ribTablesCard

/-- THE TIED CARD OF 'reachlaw8.RibDelivers'. -/
def ribDeliversCard : Claim7 := { stood := { row := ribDeliversRow, standIns := [], harness := (true, "8068309ded801870df5edac077735ba35d6a3b98aa8772bc99d155a4fe76cc96"), looks := true }, kinds := [], alts := [], laidByText := true, laidKinds := [.data, .data, .data, .data, .data, .pinned], laidTests := true, laidLooks := .later }
def RibDeliversCardSaid : Prop := Claim7.holds Tryz.pinned (.plain (OpenSpec.ofChange ribDeliversSpec)) ribDeliversCard

/-- THE TIED CARD OF 'reachlaw8.RibKeeps'. -/
def ribKeepsCard : Claim7 := { stood := { row := ribKeepsRow, standIns := [], harness := (true, "8068309ded801870df5edac077735ba35d6a3b98aa8772bc99d155a4fe76cc96"), looks := true }, kinds := [], alts := [], laidByText := true, laidKinds := [.data, .data, .data, .data, .data, .pinned], laidTests := true, laidLooks := .later }
def RibKeepsCardSaid : Prop := Claim7.holds Tryz.pinned (.plain (OpenSpec.ofChange ribKeepsSpec)) ribKeepsCard

/-- THE SECOND FORM's CARD OF 'reachlaw8.RibTables'. -/
def ribTablesUptoCard : Claim7 := { stood := { row := ribTablesUptoRow, standIns := [], harness := (true, "8068309ded801870df5edac077735ba35d6a3b98aa8772bc99d155a4fe76cc96"), looks := true }, kinds := [], alts := [], laidByText := true, laidKinds := [.data, .data, .data, .data, .data, .data, .pinned], laidTests := true, laidLooks := .later }
def RibTablesUptoCardSaid : Prop := Claim7.holds Tryz.pinned (.plain (OpenSpec.upto ribTablesSpec)) ribTablesUptoCard

/-- THE SECOND FORM's CARD OF 'reachlaw8.RibDelivers'. -/
def ribDeliversUptoCard : Claim7 := { stood := { row := ribDeliversUptoRow, standIns := [], harness := (true, "8068309ded801870df5edac077735ba35d6a3b98aa8772bc99d155a4fe76cc96"), looks := true }, kinds := [], alts := [], laidByText := true, laidKinds := [.data, .data, .data, .data, .data, .pinned], laidTests := true, laidLooks := .later }
def RibDeliversUptoCardSaid : Prop := Claim7.holds Tryz.pinned (.plain (OpenSpec.upto ribDeliversSpec)) ribDeliversUptoCard

/-- THE SECOND FORM's CARD OF 'reachlaw8.RibKeeps'. -/
def ribKeepsUptoCard : Claim7 := { stood := { row := ribKeepsUptoRow, standIns := [], harness := (true, "8068309ded801870df5edac077735ba35d6a3b98aa8772bc99d155a4fe76cc96"), looks := true }, kinds := [], alts := [], laidByText := true, laidKinds := [.data, .data, .data, .data, .data, .pinned], laidTests := true, laidLooks := .later }
def RibKeepsUptoCardSaid : Prop := Claim7.holds Tryz.pinned (.plain (OpenSpec.upto ribKeepsSpec)) ribKeepsUptoCard
end Rows
end Go.Proofs.YtnlingegeangmaaGreatDoor
