/-
  DERIVED. GIVEN WITH THE SEED: THE CARDS: each row of YtaiondckookpiaaGreatDoorRows.lean that lists a variable, with what it lists TIED to the program's text (the seventh form; the later family's looks); each row that meets fmt, with fmt's text TOLD by the authors' own Lean function (tested against real Go, not proved from fmt's source: count such statements apart). THE CARD IS WHAT COUNTS. Prove the row's statement (the work); the ties are given (YtaiondckookpiaaGreatDoorTie.lean); close each card by the builder's one call (the guide's Derived/Test/ToyasCard.lean, 'card_holds'). Laid BY PROGRAM, IN A SANDBOX (cutbox-door.mjs). By AI agents, Wed Nov 11 2026. No macro, syntax, notation, axiom, sorry.
-/
import Derived.Test.YtaiondckookpiaaGreatDoorRows
import GoSem.ClaimSeven
namespace Go.Proofs.YtaiondckookpiaaGreatDoor
namespace Rows

/-- THE TIED CARD OF 'reachlaw2.SpaceJoins'. -/
def spaceJoinsCard : Claim7 := { stood := { row := spaceJoinsRow, standIns := [], harness := (true, "ac47d0717ad9efede2c5edf03595cd16bb091d140aad46e06def2b5a1f304c5b"), looks := true }, kinds := [], alts := [], laidByText := true, laidKinds := [.data, .pinned], laidTests := true, laidLooks := .later }
def SpaceJoinsCardSaid : Prop := Claim7.holds Tryz.pinned (.plain (OpenSpec.ofChange spaceJoinsSpec)) spaceJoinsCard

/-- THE TIED CARD OF 'reachlaw2.SpaceMeets'. -/
def spaceMeetsCard : Claim7 := { stood := { row := spaceMeetsRow, standIns := [], harness := (true, "ac47d0717ad9efede2c5edf03595cd16bb091d140aad46e06def2b5a1f304c5b"), looks := true }, kinds := [], alts := [], laidByText := true, laidKinds := [.data, .pinned], laidTests := true, laidLooks := .later }
def SpaceMeetsCardSaid : Prop := Claim7.holds Tryz.pinned (.plain (OpenSpec.ofChange spaceMeetsSpec)) spaceMeetsCard

/-- THE TIED CARD OF 'reachlaw2.SpaceHolds'. -/
def spaceHoldsCard : Claim7 := { stood := { row := spaceHoldsRow, standIns := [], harness := (true, "ac47d0717ad9efede2c5edf03595cd16bb091d140aad46e06def2b5a1f304c5b"), looks := true }, kinds := [], alts := [], laidByText := true, laidKinds := [.data, .pinned], laidTests := true, laidLooks := .later }
def SpaceHoldsCardSaid : Prop := Claim7.holds Tryz.pinned (.plain (OpenSpec.ofChange spaceHoldsSpec)) spaceHoldsCard

/-- THE TIED CARD OF 'reachlaw2.SpaceTakes'. -/
def spaceTakesCard : Claim7 := { stood := { row := spaceTakesRow, standIns := [], harness := (true, "ac47d0717ad9efede2c5edf03595cd16bb091d140aad46e06def2b5a1f304c5b"), looks := true }, kinds := [], alts := [], laidByText := true, laidKinds := [.data, .pinned], laidTests := true, laidLooks := .later }
def SpaceTakesCardSaid : Prop := Claim7.holds Tryz.pinned (.plain (OpenSpec.ofChange spaceTakesSpec)) spaceTakesCard

/-- THE TIED CARD OF 'reachlaw2.SpaceBefores'. -/
def spaceBeforesCard : Claim7 := { stood := { row := spaceBeforesRow, standIns := [], harness := (true, "ac47d0717ad9efede2c5edf03595cd16bb091d140aad46e06def2b5a1f304c5b"), looks := true }, kinds := [], alts := [], laidByText := true, laidKinds := [.data, .pinned], laidTests := true, laidLooks := .later }
def SpaceBeforesCardSaid : Prop := Claim7.holds Tryz.pinned (.plain (OpenSpec.ofChange spaceBeforesSpec)) spaceBeforesCard

/-- THE TIED CARD OF 'reachlaw2.SpaceWalks'. -/
def spaceWalksCard : Claim7 := { stood := { row := spaceWalksRow, standIns := [], harness := (true, "ac47d0717ad9efede2c5edf03595cd16bb091d140aad46e06def2b5a1f304c5b"), looks := true }, kinds := [], alts := [], laidByText := true, laidKinds := [.data, .pinned], laidTests := true, laidLooks := .later }
def SpaceWalksCardSaid : Prop := Claim7.holds Tryz.pinned (.plain (OpenSpec.ofChange spaceWalksSpec)) spaceWalksCard

/-- THE TIED CARD OF 'reachlaw2.SpaceExpands'. -/
def spaceExpandsCard : Claim7 := { stood := { row := spaceExpandsRow, standIns := [], harness := (true, "ac47d0717ad9efede2c5edf03595cd16bb091d140aad46e06def2b5a1f304c5b"), looks := true }, kinds := [], alts := [], laidByText := true, laidKinds := [.data, .pinned], laidTests := true, laidLooks := .later }
def SpaceExpandsCardSaid : Prop := Claim7.holds Tryz.pinned (.plain (OpenSpec.ofChange spaceExpandsSpec)) spaceExpandsCard

/-- THE TIED CARD OF 'reachlaw2.SpaceAfters'. -/
def spaceAftersCard : Claim7 := { stood := { row := spaceAftersRow, standIns := [], harness := (true, "ac47d0717ad9efede2c5edf03595cd16bb091d140aad46e06def2b5a1f304c5b"), looks := true }, kinds := [], alts := [], laidByText := true, laidKinds := [.data, .pinned], laidTests := true, laidLooks := .later }
def SpaceAftersCardSaid : Prop := Claim7.holds Tryz.pinned (.plain (OpenSpec.ofChange spaceAftersSpec)) spaceAftersCard

/-- THE TIED CARD OF 'reachlaw2.SpaceLeasts'. -/
def spaceLeastsCard : Claim7 := { stood := { row := spaceLeastsRow, standIns := [], harness := (true, "ac47d0717ad9efede2c5edf03595cd16bb091d140aad46e06def2b5a1f304c5b"), looks := true }, kinds := [], alts := [], laidByText := true, laidKinds := [.data, .pinned], laidTests := true, laidLooks := .later }
def SpaceLeastsCardSaid : Prop := Claim7.holds Tryz.pinned (.plain (OpenSpec.ofChange spaceLeastsSpec)) spaceLeastsCard

/-- THE TIED CARD OF 'reachlaw2.SpaceWithins'. -/
def spaceWithinsCard : Claim7 := { stood := { row := spaceWithinsRow, standIns := [], harness := (true, "ac47d0717ad9efede2c5edf03595cd16bb091d140aad46e06def2b5a1f304c5b"), looks := true }, kinds := [], alts := [], laidByText := true, laidKinds := [.data, .pinned], laidTests := true, laidLooks := .later }
def SpaceWithinsCardSaid : Prop := Claim7.holds Tryz.pinned (.plain (OpenSpec.ofChange spaceWithinsSpec)) spaceWithinsCard

/-- THE TIED CARD OF 'reachlaw2.SpaceWrites'. -/
def spaceWritesCard : Claim7 := { stood := { row := spaceWritesRow, standIns := [], harness := (true, "ac47d0717ad9efede2c5edf03595cd16bb091d140aad46e06def2b5a1f304c5b"), looks := true }, kinds := [], alts := [], laidByText := true, laidKinds := [.data, .pinned], laidTests := true, laidLooks := .later }
def SpaceWritesCardSaid : Prop := Claim7.holds Tryz.pinned (.plain (OpenSpec.ofChange spaceWritesSpec)) spaceWritesCard

/-- THE TIED CARD OF 'reachlaw2.SpaceInside'. -/
def spaceInsideCard : Claim7 := { stood := { row := spaceInsideRow, standIns := [], harness := (true, "ac47d0717ad9efede2c5edf03595cd16bb091d140aad46e06def2b5a1f304c5b"), looks := true }, kinds := [], alts := [], laidByText := true, laidKinds := [.data, .pinned], laidTests := true, laidLooks := .later }
def SpaceInsideCardSaid : Prop := Claim7.holds Tryz.pinned (.plain (OpenSpec.ofChange spaceInsideSpec)) spaceInsideCard

/-- THE TIED CARD OF 'reachlaw2.SpacePlays'. -/
def spacePlaysCard : Claim7 := { stood := { row := spacePlaysRow, standIns := [], harness := (true, "ac47d0717ad9efede2c5edf03595cd16bb091d140aad46e06def2b5a1f304c5b"), looks := true }, kinds := [], alts := [], laidByText := true, laidKinds := [.data, .pinned], laidTests := true, laidLooks := .later }
def SpacePlaysCardSaid : Prop := Claim7.holds Tryz.pinned (.plain (OpenSpec.ofChange spacePlaysSpec)) spacePlaysCard

/-- THE TIED CARD OF 'reachlaw2.SpaceEdges'. -/
def spaceEdgesCard : Claim7 := { stood := { row := spaceEdgesRow, standIns := [], harness := (true, "ac47d0717ad9efede2c5edf03595cd16bb091d140aad46e06def2b5a1f304c5b"), looks := true }, kinds := [], alts := [], laidByText := true, laidKinds := [.data, .pinned], laidTests := true, laidLooks := .later }
def SpaceEdgesCardSaid : Prop := Claim7.holds Tryz.pinned (.plain (OpenSpec.ofChange spaceEdgesSpec)) spaceEdgesCard

/-- THE SECOND FORM's CARD OF 'reachlaw2.SpaceJoins'. -/
def spaceJoinsUptoCard : Claim7 := { stood := { row := spaceJoinsUptoRow, standIns := [], harness := (true, "ac47d0717ad9efede2c5edf03595cd16bb091d140aad46e06def2b5a1f304c5b"), looks := true }, kinds := [], alts := [], laidByText := true, laidKinds := [.data, .pinned], laidTests := true, laidLooks := .later }
def SpaceJoinsUptoCardSaid : Prop := Claim7.holds Tryz.pinned (.plain (OpenSpec.upto spaceJoinsSpec)) spaceJoinsUptoCard

/-- THE SECOND FORM's CARD OF 'reachlaw2.SpaceMeets'. -/
def spaceMeetsUptoCard : Claim7 := { stood := { row := spaceMeetsUptoRow, standIns := [], harness := (true, "ac47d0717ad9efede2c5edf03595cd16bb091d140aad46e06def2b5a1f304c5b"), looks := true }, kinds := [], alts := [], laidByText := true, laidKinds := [.data, .pinned], laidTests := true, laidLooks := .later }
def SpaceMeetsUptoCardSaid : Prop := Claim7.holds Tryz.pinned (.plain (OpenSpec.upto spaceMeetsSpec)) spaceMeetsUptoCard

/-- THE SECOND FORM's CARD OF 'reachlaw2.SpaceHolds'. -/
def spaceHoldsUptoCard : Claim7 := { stood := { row := spaceHoldsUptoRow, standIns := [], harness := (true, "ac47d0717ad9efede2c5edf03595cd16bb091d140aad46e06def2b5a1f304c5b"), looks := true }, kinds := [], alts := [], laidByText := true, laidKinds := [.data, .pinned], laidTests := true, laidLooks := .later }
def SpaceHoldsUptoCardSaid : Prop := Claim7.holds Tryz.pinned (.plain (OpenSpec.upto spaceHoldsSpec)) spaceHoldsUptoCard

/-- THE SECOND FORM's CARD OF 'reachlaw2.SpaceTakes'. -/
def spaceTakesUptoCard : Claim7 := { stood := { row := spaceTakesUptoRow, standIns := [], harness := (true, "ac47d0717ad9efede2c5edf03595cd16bb091d140aad46e06def2b5a1f304c5b"), looks := true }, kinds := [], alts := [], laidByText := true, laidKinds := [.data, .pinned], laidTests := true, laidLooks := .later }
def SpaceTakesUptoCardSaid : Prop := Claim7.holds Tryz.pinned (.plain (OpenSpec.upto spaceTakesSpec)) spaceTakesUptoCard

/-- THE SECOND FORM's CARD OF 'reachlaw2.SpaceBefores'. -/
def spaceBeforesUptoCard : Claim7 := { stood := { row := spaceBeforesUptoRow, standIns := [], harness := (true, "ac47d0717ad9efede2c5edf03595cd16bb091d140aad46e06def2b5a1f304c5b"), looks := true }, kinds := [], alts := [], laidByText := true, laidKinds := [.data, .pinned], laidTests := true, laidLooks := .later }
def SpaceBeforesUptoCardSaid : Prop := Claim7.holds Tryz.pinned (.plain (OpenSpec.upto spaceBeforesSpec)) spaceBeforesUptoCard

/-- THE SECOND FORM's CARD OF 'reachlaw2.SpaceWalks'. -/
def spaceWalksUptoCard : Claim7 := { stood := { row := spaceWalksUptoRow, standIns := [], harness := (true, "ac47d0717ad9efede2c5edf03595cd16bb091d140aad46e06def2b5a1f304c5b"), looks := true }, kinds := [], alts := [], laidByText := true, laidKinds := [.data, .pinned], laidTests := true, laidLooks := .later }
def SpaceWalksUptoCardSaid : Prop := Claim7.holds Tryz.pinned (.plain (OpenSpec.upto spaceWalksSpec)) spaceWalksUptoCard

/-- THE SECOND FORM's CARD OF 'reachlaw2.SpaceExpands'. -/
def spaceExpandsUptoCard : Claim7 := { stood := { row := spaceExpandsUptoRow, standIns := [], harness := (true, "ac47d0717ad9efede2c5edf03595cd16bb091d140aad46e06def2b5a1f304c5b"), looks := true }, kinds := [], alts := [], laidByText := true, laidKinds := [.data, .pinned], laidTests := true, laidLooks := .later }
def SpaceExpandsUptoCardSaid : Prop := Claim7.holds Tryz.pinned (.plain (OpenSpec.upto spaceExpandsSpec)) spaceExpandsUptoCard

/-- THE SECOND FORM's CARD OF 'reachlaw2.SpaceAfters'. -/
def spaceAftersUptoCard : Claim7 := { stood := { row := spaceAftersUptoRow, standIns := [], harness := (true, "ac47d0717ad9efede2c5edf03595cd16bb091d140aad46e06def2b5a1f304c5b"), looks := true }, kinds := [], alts := [], laidByText := true, laidKinds := [.data, .pinned], laidTests := true, laidLooks := .later }
def SpaceAftersUptoCardSaid : Prop := Claim7.holds Tryz.pinned (.plain (OpenSpec.upto spaceAftersSpec)) spaceAftersUptoCard

/-- THE SECOND FORM's CARD OF 'reachlaw2.SpaceLeasts'. -/
def spaceLeastsUptoCard : Claim7 := { stood := { row := spaceLeastsUptoRow, standIns := [], harness := (true, "ac47d0717ad9efede2c5edf03595cd16bb091d140aad46e06def2b5a1f304c5b"), looks := true }, kinds := [], alts := [], laidByText := true, laidKinds := [.data, .pinned], laidTests := true, laidLooks := .later }
def SpaceLeastsUptoCardSaid : Prop := Claim7.holds Tryz.pinned (.plain (OpenSpec.upto spaceLeastsSpec)) spaceLeastsUptoCard

/-- THE SECOND FORM's CARD OF 'reachlaw2.SpaceWithins'. -/
def spaceWithinsUptoCard : Claim7 := { stood := { row := spaceWithinsUptoRow, standIns := [], harness := (true, "ac47d0717ad9efede2c5edf03595cd16bb091d140aad46e06def2b5a1f304c5b"), looks := true }, kinds := [], alts := [], laidByText := true, laidKinds := [.data, .pinned], laidTests := true, laidLooks := .later }
def SpaceWithinsUptoCardSaid : Prop := Claim7.holds Tryz.pinned (.plain (OpenSpec.upto spaceWithinsSpec)) spaceWithinsUptoCard

/-- THE SECOND FORM's CARD OF 'reachlaw2.SpaceWrites'. -/
def spaceWritesUptoCard : Claim7 := { stood := { row := spaceWritesUptoRow, standIns := [], harness := (true, "ac47d0717ad9efede2c5edf03595cd16bb091d140aad46e06def2b5a1f304c5b"), looks := true }, kinds := [], alts := [], laidByText := true, laidKinds := [.data, .pinned], laidTests := true, laidLooks := .later }
def SpaceWritesUptoCardSaid : Prop := Claim7.holds Tryz.pinned (.plain (OpenSpec.upto spaceWritesSpec)) spaceWritesUptoCard

/-- THE SECOND FORM's CARD OF 'reachlaw2.SpaceInside'. -/
def spaceInsideUptoCard : Claim7 := { stood := { row := spaceInsideUptoRow, standIns := [], harness := (true, "ac47d0717ad9efede2c5edf03595cd16bb091d140aad46e06def2b5a1f304c5b"), looks := true }, kinds := [], alts := [], laidByText := true, laidKinds := [.data, .pinned], laidTests := true, laidLooks := .later }
def SpaceInsideUptoCardSaid : Prop := Claim7.holds Tryz.pinned (.plain (OpenSpec.upto spaceInsideSpec)) spaceInsideUptoCard

/-- THE SECOND FORM's CARD OF 'reachlaw2.SpacePlays'. -/
def spacePlaysUptoCard : Claim7 := { stood := { row := spacePlaysUptoRow, standIns := [], harness := (true, "ac47d0717ad9efede2c5edf03595cd16bb091d140aad46e06def2b5a1f304c5b"), looks := true }, kinds := [], alts := [], laidByText := true, laidKinds := [.data, .pinned], laidTests := true, laidLooks := .later }
def SpacePlaysUptoCardSaid : Prop := Claim7.holds Tryz.pinned (.plain (OpenSpec.upto spacePlaysSpec)) spacePlaysUptoCard

/-- THE SECOND FORM's CARD OF 'reachlaw2.SpaceEdges'. -/
def spaceEdgesUptoCard : Claim7 := { stood := { row := spaceEdgesUptoRow, standIns := [], harness := (true, "ac47d0717ad9efede2c5edf03595cd16bb091d140aad46e06def2b5a1f304c5b"), looks := true }, kinds := [], alts := [], laidByText := true, laidKinds := [.data, .pinned], laidTests := true, laidLooks := .later }
def SpaceEdgesUptoCardSaid : Prop := Claim7.holds Tryz.pinned (.plain (OpenSpec.upto spaceEdgesSpec)) spaceEdgesUptoCard
end Rows
end Go.Proofs.YtaiondckookpiaaGreatDoor
