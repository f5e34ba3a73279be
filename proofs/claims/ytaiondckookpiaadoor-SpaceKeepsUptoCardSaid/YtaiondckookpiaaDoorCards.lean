/-
  DERIVED. GIVEN WITH THE SEED: THE CARDS: each row of YtaiondckookpiaaDoorRows.lean that lists a variable, with what it lists TIED to the program's text (the seventh form; the later family's looks); each row that meets fmt, with fmt's text TOLD by the authors' own Lean function (tested against real Go, not proved from fmt's source: count such statements apart). THE CARD IS WHAT COUNTS. Prove the row's statement (the work); the ties are given (YtaiondckookpiaaDoorTie.lean); close each card by the builder's one call (the guide's Derived/Test/ToyasCard.lean, 'card_holds'). Laid BY PROGRAM, IN A SANDBOX (cutbox-door.mjs). By AI agents, Wed Nov 11 2026. No macro, syntax, notation, axiom, sorry.
-/
import Derived.Test.YtaiondckookpiaaDoorRows
import GoSem.ClaimSeven
namespace Go.Proofs.YtaiondckookpiaaDoor
namespace Rows

/-- THE TIED CARD OF 'reachlaw2.SpaceForms'. -/
def spaceFormsCard : Claim7 := { stood := { row := spaceFormsRow, standIns := [], harness := (true, "8d1fb99a9b635a7dabc5283a99177f73d7ac36fc8e4ca3b3cd378ab14852a8c6"), looks := true }, kinds := [], alts := [], laidByText := true, laidKinds := [.data, .pinned], laidTests := true, laidLooks := .later }
def SpaceFormsCardSaid : Prop := Claim7.holds Tryd.pinned (.plain (OpenSpec.ofChange spaceFormsSpec)) spaceFormsCard

/-- THE TIED CARD OF 'reachlaw2.SpaceSaid'. -/
def spaceSaidCard : Claim7 := { stood := { row := spaceSaidRow, standIns := [], harness := (true, "8d1fb99a9b635a7dabc5283a99177f73d7ac36fc8e4ca3b3cd378ab14852a8c6"), looks := true }, kinds := [], alts := [], laidByText := true, laidKinds := [.data, .pinned], laidTests := true, laidLooks := .later }
def SpaceSaidCardSaid : Prop := Claim7.holds Tryd.pinned (.plain (OpenSpec.ofChange spaceSaidSpec)) spaceSaidCard

/-- THE TIED CARD OF 'reachlaw2.SpaceLattice'. -/
def spaceLatticeCard : Claim7 := { stood := { row := spaceLatticeRow, standIns := [], harness := (true, "8d1fb99a9b635a7dabc5283a99177f73d7ac36fc8e4ca3b3cd378ab14852a8c6"), looks := true }, kinds := [], alts := [], laidByText := true, laidKinds := [.data, .pinned], laidTests := true, laidLooks := .later }
def SpaceLatticeCardSaid : Prop := Claim7.holds Tryd.pinned (.plain (OpenSpec.ofChange spaceLatticeSpec)) spaceLatticeCard

/-- THE TIED CARD OF 'reachlaw2.SpaceKeeps'. -/
def spaceKeepsCard : Claim7 := { stood := { row := spaceKeepsRow, standIns := [], harness := (true, "8d1fb99a9b635a7dabc5283a99177f73d7ac36fc8e4ca3b3cd378ab14852a8c6"), looks := true }, kinds := [], alts := [], laidByText := true, laidKinds := [.data, .pinned], laidTests := true, laidLooks := .later }
def SpaceKeepsCardSaid : Prop := Claim7.holds Tryd.pinned (.plain (OpenSpec.ofChange spaceKeepsSpec)) spaceKeepsCard

/-- THE TIED CARD OF 'reachlaw2.SpaceMeans'. -/
def spaceMeansCard : Claim7 := { stood := { row := spaceMeansRow, standIns := [], harness := (true, "8d1fb99a9b635a7dabc5283a99177f73d7ac36fc8e4ca3b3cd378ab14852a8c6"), looks := true }, kinds := [], alts := [], laidByText := true, laidKinds := [.data, .pinned], laidTests := true, laidLooks := .later }
def SpaceMeansCardSaid : Prop := Claim7.holds Tryd.pinned (.plain (OpenSpec.ofChange spaceMeansSpec)) spaceMeansCard

/-- THE TIED CARD OF 'reachlaw2.SpaceSpread'. -/
def spaceSpreadCard : Claim7 := { stood := { row := spaceSpreadRow, standIns := [], harness := (true, "8d1fb99a9b635a7dabc5283a99177f73d7ac36fc8e4ca3b3cd378ab14852a8c6"), looks := true }, kinds := [], alts := [], laidByText := true, laidKinds := [.data, .pinned], laidTests := true, laidLooks := .later }
def SpaceSpreadCardSaid : Prop := Claim7.holds Tryd.pinned (.plain (OpenSpec.ofChange spaceSpreadSpec)) spaceSpreadCard

/-- THE SECOND FORM's CARD OF 'reachlaw2.SpaceForms'. -/
def spaceFormsUptoCard : Claim7 := { stood := { row := spaceFormsUptoRow, standIns := [], harness := (true, "8d1fb99a9b635a7dabc5283a99177f73d7ac36fc8e4ca3b3cd378ab14852a8c6"), looks := true }, kinds := [], alts := [], laidByText := true, laidKinds := [.data, .pinned], laidTests := true, laidLooks := .later }
def SpaceFormsUptoCardSaid : Prop := Claim7.holds Tryd.pinned (.plain (OpenSpec.upto spaceFormsSpec)) spaceFormsUptoCard

/-- THE SECOND FORM's CARD OF 'reachlaw2.SpaceSaid'. -/
def spaceSaidUptoCard : Claim7 := { stood := { row := spaceSaidUptoRow, standIns := [], harness := (true, "8d1fb99a9b635a7dabc5283a99177f73d7ac36fc8e4ca3b3cd378ab14852a8c6"), looks := true }, kinds := [], alts := [], laidByText := true, laidKinds := [.data, .pinned], laidTests := true, laidLooks := .later }
def SpaceSaidUptoCardSaid : Prop := Claim7.holds Tryd.pinned (.plain (OpenSpec.upto spaceSaidSpec)) spaceSaidUptoCard

/-- THE SECOND FORM's CARD OF 'reachlaw2.SpaceLattice'. -/
def spaceLatticeUptoCard : Claim7 := { stood := { row := spaceLatticeUptoRow, standIns := [], harness := (true, "8d1fb99a9b635a7dabc5283a99177f73d7ac36fc8e4ca3b3cd378ab14852a8c6"), looks := true }, kinds := [], alts := [], laidByText := true, laidKinds := [.data, .pinned], laidTests := true, laidLooks := .later }
def SpaceLatticeUptoCardSaid : Prop := Claim7.holds Tryd.pinned (.plain (OpenSpec.upto spaceLatticeSpec)) spaceLatticeUptoCard

/-- THE SECOND FORM's CARD OF 'reachlaw2.SpaceKeeps'. -/
def spaceKeepsUptoCard : Claim7 := { stood := { row := spaceKeepsUptoRow, standIns := [], harness := (true, "8d1fb99a9b635a7dabc5283a99177f73d7ac36fc8e4ca3b3cd378ab14852a8c6"), looks := true }, kinds := [], alts := [], laidByText := true, laidKinds := [.data, .pinned], laidTests := true, laidLooks := .later }
def SpaceKeepsUptoCardSaid : Prop := Claim7.holds Tryd.pinned (.plain (OpenSpec.upto spaceKeepsSpec)) spaceKeepsUptoCard

/-- THE SECOND FORM's CARD OF 'reachlaw2.SpaceMeans'. -/
def spaceMeansUptoCard : Claim7 := { stood := { row := spaceMeansUptoRow, standIns := [], harness := (true, "8d1fb99a9b635a7dabc5283a99177f73d7ac36fc8e4ca3b3cd378ab14852a8c6"), looks := true }, kinds := [], alts := [], laidByText := true, laidKinds := [.data, .pinned], laidTests := true, laidLooks := .later }
def SpaceMeansUptoCardSaid : Prop := Claim7.holds Tryd.pinned (.plain (OpenSpec.upto spaceMeansSpec)) spaceMeansUptoCard

/-- THE SECOND FORM's CARD OF 'reachlaw2.SpaceSpread'. -/
def spaceSpreadUptoCard : Claim7 := { stood := { row := spaceSpreadUptoRow, standIns := [], harness := (true, "8d1fb99a9b635a7dabc5283a99177f73d7ac36fc8e4ca3b3cd378ab14852a8c6"), looks := true }, kinds := [], alts := [], laidByText := true, laidKinds := [.data, .pinned], laidTests := true, laidLooks := .later }
def SpaceSpreadUptoCardSaid : Prop := Claim7.holds Tryd.pinned (.plain (OpenSpec.upto spaceSpreadSpec)) spaceSpreadUptoCard
end Rows
end Go.Proofs.YtaiondckookpiaaDoor
