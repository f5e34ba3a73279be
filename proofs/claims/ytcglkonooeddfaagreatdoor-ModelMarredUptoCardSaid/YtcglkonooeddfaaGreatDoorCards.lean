/-
  DERIVED. GIVEN WITH THE SEED: THE CARDS: each row of YtcglkonooeddfaaGreatDoorRows.lean that lists a variable, with what it lists TIED to the program's text (the seventh form; the later family's looks); each row that meets fmt, with fmt's text TOLD by the authors' own Lean function (tested against real Go, not proved from fmt's source: count such statements apart). THE CARD IS WHAT COUNTS. Prove the row's statement (the work); the ties are given (YtcglkonooeddfaaGreatDoorTie.lean); close each card by the builder's one call (the guide's Derived/Test/ToyasCard.lean, 'card_holds'). Laid BY PROGRAM, IN A SANDBOX (cutbox-door.mjs). By AI agents, Wed Nov 11 2026. No macro, syntax, notation, axiom, sorry.
-/
import Derived.Test.YtcglkonooeddfaaGreatDoorRows
import GoSem.ClaimSeven
namespace Go.Proofs.YtcglkonooeddfaaGreatDoor
namespace Rows

/-- THE TIED CARD OF 'reachlaw7.ModelOwn'. -/
def modelOwnCard : Claim7 := { stood := { row := modelOwnRow, standIns := [], harness := (true, "55fd007a57e6257c37106d6028d0cd1c2f84e822469a0fd2519b7ebe23b1c018"), looks := true }, kinds := [], alts := [], laidByText := true, laidKinds := [.data, .data, .data, .data, .data, .data, .pinned], laidTests := true, laidLooks := .later }
def ModelOwnCardSaid : Prop := Claim7.holds Tryz.pinned (.plain (OpenSpec.ofChange modelOwnSpec)) modelOwnCard

/-- THE TIED CARD OF 'reachlaw7.ModelZone'. -/
def modelZoneCard : Claim7 := { stood := { row := modelZoneRow, standIns := [], harness := (true, "55fd007a57e6257c37106d6028d0cd1c2f84e822469a0fd2519b7ebe23b1c018"), looks := true }, kinds := [], alts := [], laidByText := true, laidKinds := [.data, .data, .data, .data, .data, .pinned], laidTests := true, laidLooks := .later }
def ModelZoneCardSaid : Prop := Claim7.holds Tryz.pinned (.plain (OpenSpec.ofChange modelZoneSpec)) modelZoneCard

/-- THE TIED CARD OF 'reachlaw7.ModelChecks'. -/
def modelChecksCard : Claim7 := { stood := { row := modelChecksRow, standIns := [], harness := (true, "55fd007a57e6257c37106d6028d0cd1c2f84e822469a0fd2519b7ebe23b1c018"), looks := true }, kinds := [], alts := [], laidByText := true, laidKinds := [.data, .data, .data, .data, .data, .data, .pinned], laidTests := true, laidLooks := .later }
def ModelChecksCardSaid : Prop := Claim7.holds Tryz.pinned (.plain (OpenSpec.ofChange modelChecksSpec)) modelChecksCard

/-- THE TIED CARD OF 'reachlaw7.ModelFinds'. -/
def modelFindsCard : Claim7 := { stood := { row := modelFindsRow, standIns := [], harness := (true, "55fd007a57e6257c37106d6028d0cd1c2f84e822469a0fd2519b7ebe23b1c018"), looks := true }, kinds := [], alts := [], laidByText := true, laidKinds := [.data, .data, .data, .data, .data, .data, .pinned], laidTests := true, laidLooks := .later }
def ModelFindsCardSaid : Prop := Claim7.holds Tryz.pinned (.plain (OpenSpec.ofChange modelFindsSpec)) modelFindsCard

/-- THE TIED CARD OF 'reachlaw7.ModelPorts'. -/
def modelPortsCard : Claim7 := { stood := { row := modelPortsRow, standIns := [], harness := (true, "55fd007a57e6257c37106d6028d0cd1c2f84e822469a0fd2519b7ebe23b1c018"), looks := true }, kinds := [], alts := [], laidByText := true, laidKinds := [.data, .data, .data, .data, .data, .data, .pinned], laidTests := true, laidLooks := .later }
def ModelPortsCardSaid : Prop := Claim7.holds Tryz.pinned (.plain (OpenSpec.ofChange modelPortsSpec)) modelPortsCard

/-- THE TIED CARD OF 'reachlaw7.ModelNumbers'. -/
def modelNumbersCard : Claim7 := { stood := { row := modelNumbersRow, standIns := [], harness := (true, "55fd007a57e6257c37106d6028d0cd1c2f84e822469a0fd2519b7ebe23b1c018"), looks := true }, kinds := [], alts := [], laidByText := true, laidKinds := [.data, .data, .data, .data, .data, .pinned], laidTests := true, laidLooks := .later }
def ModelNumbersCardSaid : Prop := Claim7.holds Tryz.pinned (.plain (OpenSpec.ofChange modelNumbersSpec)) modelNumbersCard

/-- THE TIED CARD OF 'reachlaw7.ModelEdges'. -/
def modelEdgesCard : Claim7 := { stood := { row := modelEdgesRow, standIns := [], harness := (true, "55fd007a57e6257c37106d6028d0cd1c2f84e822469a0fd2519b7ebe23b1c018"), looks := true }, kinds := [], alts := [], laidByText := true, laidKinds := [.data, .data, .data, .data, .data, .data, .pinned], laidTests := true, laidLooks := .later }
def ModelEdgesCardSaid : Prop := Claim7.holds Tryz.pinned (.plain (OpenSpec.ofChange modelEdgesSpec)) modelEdgesCard

/-- THE TIED CARD OF 'reachlaw7.ModelWays'. -/
def modelWaysCard : Claim7 := { stood := { row := modelWaysRow, standIns := [], harness := (true, "55fd007a57e6257c37106d6028d0cd1c2f84e822469a0fd2519b7ebe23b1c018"), looks := true }, kinds := [], alts := [], laidByText := true, laidKinds := [.data, .data, .data, .data, .data, .pinned], laidTests := true, laidLooks := .later }
def ModelWaysCardSaid : Prop := Claim7.holds Tryz.pinned (.plain (OpenSpec.ofChange modelWaysSpec)) modelWaysCard

/-- THE TIED CARD OF 'reachlaw7.ModelTurned'. -/
def modelTurnedCard : Claim7 := { stood := { row := modelTurnedRow, standIns := [], harness := (true, "55fd007a57e6257c37106d6028d0cd1c2f84e822469a0fd2519b7ebe23b1c018"), looks := true }, kinds := [], alts := [], laidByText := true, laidKinds := [.data, .data, .data, .data, .data, .pinned], laidTests := true, laidLooks := .later }
def ModelTurnedCardSaid : Prop := Claim7.holds Tryz.pinned (.plain (OpenSpec.ofChange modelTurnedSpec)) modelTurnedCard

/-- THE TIED CARD OF 'reachlaw7.ModelMarred'. -/
def modelMarredCard : Claim7 := { stood := { row := modelMarredRow, standIns := [], harness := (true, "55fd007a57e6257c37106d6028d0cd1c2f84e822469a0fd2519b7ebe23b1c018"), looks := true }, kinds := [], alts := [], laidByText := true, laidKinds := [.data, .data, .data, .data, .data, .pinned], laidTests := true, laidLooks := .later }
def ModelMarredCardSaid : Prop := Claim7.holds Tryz.pinned (.plain (OpenSpec.ofChange modelMarredSpec)) modelMarredCard

/-- THE TIED CARD OF 'reachlaw7.ModelZones'. -/
def modelZonesCard : Claim7 := { stood := { row := modelZonesRow, standIns := [], harness := (true, "55fd007a57e6257c37106d6028d0cd1c2f84e822469a0fd2519b7ebe23b1c018"), looks := true }, kinds := [], alts := [], laidByText := true, laidKinds := [.data, .data, .data, .data, .data, .data, .pinned], laidTests := true, laidLooks := .later }
def ModelZonesCardSaid : Prop := Claim7.holds Tryz.pinned (.plain (OpenSpec.ofChange modelZonesSpec)) modelZonesCard

/-- THE TIED CARD OF 'reachlaw7.ModelAgain'. -/
def modelAgainCard : Claim7 := { stood := { row := modelAgainRow, standIns := [], harness := (true, "55fd007a57e6257c37106d6028d0cd1c2f84e822469a0fd2519b7ebe23b1c018"), looks := true }, kinds := [], alts := [], laidByText := true, laidKinds := [.data, .data, .data, .data, .data, .data, .pinned], laidTests := true, laidLooks := .later }
def ModelAgainCardSaid : Prop := Claim7.holds Tryz.pinned (.plain (OpenSpec.ofChange modelAgainSpec)) modelAgainCard

/-- THE SECOND FORM's CARD OF 'reachlaw7.ModelOwn'. -/
def modelOwnUptoCard : Claim7 := { stood := { row := modelOwnUptoRow, standIns := [], harness := (true, "55fd007a57e6257c37106d6028d0cd1c2f84e822469a0fd2519b7ebe23b1c018"), looks := true }, kinds := [], alts := [], laidByText := true, laidKinds := [.data, .data, .data, .data, .data, .data, .pinned], laidTests := true, laidLooks := .later }
def ModelOwnUptoCardSaid : Prop := Claim7.holds Tryz.pinned (.plain (OpenSpec.upto modelOwnSpec)) modelOwnUptoCard

/-- THE SECOND FORM's CARD OF 'reachlaw7.ModelZone'. -/
def modelZoneUptoCard : Claim7 := { stood := { row := modelZoneUptoRow, standIns := [], harness := (true, "55fd007a57e6257c37106d6028d0cd1c2f84e822469a0fd2519b7ebe23b1c018"), looks := true }, kinds := [], alts := [], laidByText := true, laidKinds := [.data, .data, .data, .data, .data, .pinned], laidTests := true, laidLooks := .later }
def ModelZoneUptoCardSaid : Prop := Claim7.holds Tryz.pinned (.plain (OpenSpec.upto modelZoneSpec)) modelZoneUptoCard

/-- THE SECOND FORM's CARD OF 'reachlaw7.ModelChecks'. -/
def modelChecksUptoCard : Claim7 := { stood := { row := modelChecksUptoRow, standIns := [], harness := (true, "55fd007a57e6257c37106d6028d0cd1c2f84e822469a0fd2519b7ebe23b1c018"), looks := true }, kinds := [], alts := [], laidByText := true, laidKinds := [.data, .data, .data, .data, .data, .data, .pinned], laidTests := true, laidLooks := .later }
def ModelChecksUptoCardSaid : Prop := Claim7.holds Tryz.pinned (.plain (OpenSpec.upto modelChecksSpec)) modelChecksUptoCard

/-- THE SECOND FORM's CARD OF 'reachlaw7.ModelFinds'. -/
def modelFindsUptoCard : Claim7 := { stood := { row := modelFindsUptoRow, standIns := [], harness := (true, "55fd007a57e6257c37106d6028d0cd1c2f84e822469a0fd2519b7ebe23b1c018"), looks := true }, kinds := [], alts := [], laidByText := true, laidKinds := [.data, .data, .data, .data, .data, .data, .pinned], laidTests := true, laidLooks := .later }
def ModelFindsUptoCardSaid : Prop := Claim7.holds Tryz.pinned (.plain (OpenSpec.upto modelFindsSpec)) modelFindsUptoCard

/-- THE SECOND FORM's CARD OF 'reachlaw7.ModelPorts'. -/
def modelPortsUptoCard : Claim7 := { stood := { row := modelPortsUptoRow, standIns := [], harness := (true, "55fd007a57e6257c37106d6028d0cd1c2f84e822469a0fd2519b7ebe23b1c018"), looks := true }, kinds := [], alts := [], laidByText := true, laidKinds := [.data, .data, .data, .data, .data, .data, .pinned], laidTests := true, laidLooks := .later }
def ModelPortsUptoCardSaid : Prop := Claim7.holds Tryz.pinned (.plain (OpenSpec.upto modelPortsSpec)) modelPortsUptoCard

/-- THE SECOND FORM's CARD OF 'reachlaw7.ModelNumbers'. -/
def modelNumbersUptoCard : Claim7 := { stood := { row := modelNumbersUptoRow, standIns := [], harness := (true, "55fd007a57e6257c37106d6028d0cd1c2f84e822469a0fd2519b7ebe23b1c018"), looks := true }, kinds := [], alts := [], laidByText := true, laidKinds := [.data, .data, .data, .data, .data, .pinned], laidTests := true, laidLooks := .later }
def ModelNumbersUptoCardSaid : Prop := Claim7.holds Tryz.pinned (.plain (OpenSpec.upto modelNumbersSpec)) modelNumbersUptoCard

/-- THE SECOND FORM's CARD OF 'reachlaw7.ModelEdges'. -/
def modelEdgesUptoCard : Claim7 := { stood := { row := modelEdgesUptoRow, standIns := [], harness := (true, "55fd007a57e6257c37106d6028d0cd1c2f84e822469a0fd2519b7ebe23b1c018"), looks := true }, kinds := [], alts := [], laidByText := true, laidKinds := [.data, .data, .data, .data, .data, .data, .pinned], laidTests := true, laidLooks := .later }
def ModelEdgesUptoCardSaid : Prop := Claim7.holds Tryz.pinned (.plain (OpenSpec.upto modelEdgesSpec)) modelEdgesUptoCard

/-- THE SECOND FORM's CARD OF 'reachlaw7.ModelWays'. -/
def modelWaysUptoCard : Claim7 := { stood := { row := modelWaysUptoRow, standIns := [], harness := (true, "55fd007a57e6257c37106d6028d0cd1c2f84e822469a0fd2519b7ebe23b1c018"), looks := true }, kinds := [], alts := [], laidByText := true, laidKinds := [.data, .data, .data, .data, .data, .pinned], laidTests := true, laidLooks := .later }
def ModelWaysUptoCardSaid : Prop := Claim7.holds Tryz.pinned (.plain (OpenSpec.upto modelWaysSpec)) modelWaysUptoCard

/-- THE SECOND FORM's CARD OF 'reachlaw7.ModelTurned'. -/
def modelTurnedUptoCard : Claim7 := { stood := { row := modelTurnedUptoRow, standIns := [], harness := (true, "55fd007a57e6257c37106d6028d0cd1c2f84e822469a0fd2519b7ebe23b1c018"), looks := true }, kinds := [], alts := [], laidByText := true, laidKinds := [.data, .data, .data, .data, .data, .pinned], laidTests := true, laidLooks := .later }
def ModelTurnedUptoCardSaid : Prop := Claim7.holds Tryz.pinned (.plain (OpenSpec.upto modelTurnedSpec)) modelTurnedUptoCard

/-- THE SECOND FORM's CARD OF 'reachlaw7.ModelMarred'. -/
def modelMarredUptoCard : Claim7 := { stood := { row := modelMarredUptoRow, standIns := [], harness := (true, "55fd007a57e6257c37106d6028d0cd1c2f84e822469a0fd2519b7ebe23b1c018"), looks := true }, kinds := [], alts := [], laidByText := true, laidKinds := [.data, .data, .data, .data, .data, .pinned], laidTests := true, laidLooks := .later }
def ModelMarredUptoCardSaid : Prop := Claim7.holds Tryz.pinned (.plain (OpenSpec.upto modelMarredSpec)) modelMarredUptoCard

/-- THE SECOND FORM's CARD OF 'reachlaw7.ModelZones'. -/
def modelZonesUptoCard : Claim7 := { stood := { row := modelZonesUptoRow, standIns := [], harness := (true, "55fd007a57e6257c37106d6028d0cd1c2f84e822469a0fd2519b7ebe23b1c018"), looks := true }, kinds := [], alts := [], laidByText := true, laidKinds := [.data, .data, .data, .data, .data, .data, .pinned], laidTests := true, laidLooks := .later }
def ModelZonesUptoCardSaid : Prop := Claim7.holds Tryz.pinned (.plain (OpenSpec.upto modelZonesSpec)) modelZonesUptoCard

/-- THE SECOND FORM's CARD OF 'reachlaw7.ModelAgain'. -/
def modelAgainUptoCard : Claim7 := { stood := { row := modelAgainUptoRow, standIns := [], harness := (true, "55fd007a57e6257c37106d6028d0cd1c2f84e822469a0fd2519b7ebe23b1c018"), looks := true }, kinds := [], alts := [], laidByText := true, laidKinds := [.data, .data, .data, .data, .data, .data, .pinned], laidTests := true, laidLooks := .later }
def ModelAgainUptoCardSaid : Prop := Claim7.holds Tryz.pinned (.plain (OpenSpec.upto modelAgainSpec)) modelAgainUptoCard
end Rows
end Go.Proofs.YtcglkonooeddfaaGreatDoor
