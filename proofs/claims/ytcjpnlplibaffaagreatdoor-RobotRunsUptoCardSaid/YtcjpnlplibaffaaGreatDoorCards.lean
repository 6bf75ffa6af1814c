/-
  DERIVED. GIVEN WITH THE SEED: THE CARDS: each row of YtcjpnlplibaffaaGreatDoorRows.lean that lists a variable, with what it lists TIED to the program's text (the seventh form; the later family's looks); each row that meets fmt, with fmt's text TOLD by the authors' own Lean function (tested against real Go, not proved from fmt's source: count such statements apart). THE CARD IS WHAT COUNTS. Prove the row's statement (the work); the ties are given (YtcjpnlplibaffaaGreatDoorTie.lean); close each card by the builder's one call (the guide's Derived/Test/ToyasCard.lean, 'card_holds'). Laid BY PROGRAM, IN A SANDBOX (cutbox-door.mjs). By AI agents, Wed Nov 11 2026. No macro, syntax, notation, axiom, sorry.
-/
import Derived.Test.YtcjpnlplibaffaaGreatDoorRows
import GoSem.ClaimSeven
namespace Go.Proofs.YtcjpnlplibaffaaGreatDoor
namespace Rows

/-- THE TIED CARD OF 'skeplaw18.RobotDelays'. -/
def robotDelaysCard : Claim7 := { stood := { row := robotDelaysRow, standIns := [], harness := (true, "b085574eab2c1e81d4a078f3178ba01c59860fe3e9e2edce28c91923bb7f6181"), looks := false }, kinds := [], alts := [], laidByText := true, laidKinds := [.data], laidTests := true, laidLooks := .later }
def RobotDelaysCardSaid : Prop := Claim7.holds Tryz.pinned (.plain (OpenSpec.ofChange robotDelaysSpec)) robotDelaysCard

/-- THE TIED CARD OF 'skeplaw18.RobotThere'. -/
def robotThereCard : Claim7 := { stood := { row := robotThereRow, standIns := [], harness := (true, "b085574eab2c1e81d4a078f3178ba01c59860fe3e9e2edce28c91923bb7f6181"), looks := false }, kinds := [], alts := [], laidByText := true, laidKinds := [.data], laidTests := true, laidLooks := .later }
def RobotThereCardSaid : Prop := Claim7.holds Tryz.pinned (.plain (OpenSpec.ofChange robotThereSpec)) robotThereCard

/-- THE TIED CARD OF 'skeplaw18.RobotStops'. -/
def robotStopsCard : Claim7 := { stood := { row := robotStopsRow, standIns := [], harness := (true, "b085574eab2c1e81d4a078f3178ba01c59860fe3e9e2edce28c91923bb7f6181"), looks := false }, kinds := [], alts := [], laidByText := true, laidKinds := [.data], laidTests := true, laidLooks := .later }
def RobotStopsCardSaid : Prop := Claim7.holds Tryz.pinned (.plain (OpenSpec.ofChange robotStopsSpec)) robotStopsCard

/-- THE TIED CARD OF 'skeplaw18.RobotPlays'. -/
def robotPlaysCard : Claim7 := { stood := { row := robotPlaysRow, standIns := [], harness := (true, "b085574eab2c1e81d4a078f3178ba01c59860fe3e9e2edce28c91923bb7f6181"), looks := false }, kinds := [], alts := [], laidByText := true, laidKinds := [.data], laidTests := true, laidLooks := .later }
def RobotPlaysCardSaid : Prop := Claim7.holds Tryz.pinned (.plain (OpenSpec.ofChange robotPlaysSpec)) robotPlaysCard

/-- THE TIED CARD OF 'skeplaw18.RobotRuns'. -/
def robotRunsCard : Claim7 := { stood := { row := robotRunsRow, standIns := [], harness := (true, "b085574eab2c1e81d4a078f3178ba01c59860fe3e9e2edce28c91923bb7f6181"), looks := false }, kinds := [], alts := [], laidByText := true, laidKinds := [.data], laidTests := true, laidLooks := .later }
def RobotRunsCardSaid : Prop := Claim7.holds Tryz.pinned (.plain (OpenSpec.ofChange robotRunsSpec)) robotRunsCard

/-- THE SECOND FORM's CARD OF 'skeplaw18.RobotDelays'. -/
def robotDelaysUptoCard : Claim7 := { stood := { row := robotDelaysUptoRow, standIns := [], harness := (true, "b085574eab2c1e81d4a078f3178ba01c59860fe3e9e2edce28c91923bb7f6181"), looks := false }, kinds := [], alts := [], laidByText := true, laidKinds := [.data], laidTests := true, laidLooks := .later }
def RobotDelaysUptoCardSaid : Prop := Claim7.holds Tryz.pinned (.plain (OpenSpec.upto robotDelaysSpec)) robotDelaysUptoCard

/-- THE SECOND FORM's CARD OF 'skeplaw18.RobotThere'. -/
def robotThereUptoCard : Claim7 := { stood := { row := robotThereUptoRow, standIns := [], harness := (true, "b085574eab2c1e81d4a078f3178ba01c59860fe3e9e2edce28c91923bb7f6181"), looks := false }, kinds := [], alts := [], laidByText := true, laidKinds := [.data], laidTests := true, laidLooks := .later }
def RobotThereUptoCardSaid : Prop := Claim7.holds Tryz.pinned (.plain (OpenSpec.upto robotThereSpec)) robotThereUptoCard

/-- THE SECOND FORM's CARD OF 'skeplaw18.RobotStops'. -/
def robotStopsUptoCard : Claim7 := { stood := { row := robotStopsUptoRow, standIns := [], harness := (true, "b085574eab2c1e81d4a078f3178ba01c59860fe3e9e2edce28c91923bb7f6181"), looks := false }, kinds := [], alts := [], laidByText := true, laidKinds := [.data], laidTests := true, laidLooks := .later }
def RobotStopsUptoCardSaid : Prop := Claim7.holds Tryz.pinned (.plain (OpenSpec.upto robotStopsSpec)) robotStopsUptoCard

/-- THE SECOND FORM's CARD OF 'skeplaw18.RobotPlays'. -/
def robotPlaysUptoCard : Claim7 := { stood := { row := robotPlaysUptoRow, standIns := [], harness := (true, "b085574eab2c1e81d4a078f3178ba01c59860fe3e9e2edce28c91923bb7f6181"), looks := false }, kinds := [], alts := [], laidByText := true, laidKinds := [.data], laidTests := true, laidLooks := .later }
def RobotPlaysUptoCardSaid : Prop := Claim7.holds Tryz.pinned (.plain (OpenSpec.upto robotPlaysSpec)) robotPlaysUptoCard

/-- THE SECOND FORM's CARD OF 'skeplaw18.RobotRuns'. -/
def robotRunsUptoCard : Claim7 := { stood := { row := robotRunsUptoRow, standIns := [], harness := (true, "b085574eab2c1e81d4a078f3178ba01c59860fe3e9e2edce28c91923bb7f6181"), looks := false }, kinds := [], alts := [], laidByText := true, laidKinds := [.data], laidTests := true, laidLooks := .later }
def RobotRunsUptoCardSaid : Prop := Claim7.holds Tryz.pinned (.plain (OpenSpec.upto robotRunsSpec)) robotRunsUptoCard
end Rows
end Go.Proofs.YtcjpnlplibaffaaGreatDoor
