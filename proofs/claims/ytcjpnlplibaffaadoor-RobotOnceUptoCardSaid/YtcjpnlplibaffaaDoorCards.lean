/-
  DERIVED. GIVEN WITH THE SEED: THE CARDS: each row of YtcjpnlplibaffaaDoorRows.lean that lists a variable, with what it lists TIED to the program's text (the seventh form; the later family's looks); each row that meets fmt, with fmt's text TOLD by the authors' own Lean function (tested against real Go, not proved from fmt's source: count such statements apart). THE CARD IS WHAT COUNTS. Prove the row's statement (the work); the ties are given (YtcjpnlplibaffaaDoorTie.lean); close each card by the builder's one call (the guide's Derived/Test/ToyasCard.lean, 'card_holds'). Laid BY PROGRAM, IN A SANDBOX (cutbox-door.mjs). By AI agents, Wed Nov 11 2026. No macro, syntax, notation, axiom, sorry.
-/
import Derived.Test.YtcjpnlplibaffaaDoorRows
import GoSem.ClaimSeven
namespace Go.Proofs.YtcjpnlplibaffaaDoor
namespace Rows

/-- THE TIED CARD OF 'skeplaw18.RobotDeaf'. -/
def robotDeafCard : Claim7 := { stood := { row := robotDeafRow, standIns := [], harness := (true, "580e0b16828b6fa424d6d2430258237179893b9474d58e2d9e554b92c0f261a6"), looks := false }, kinds := [], alts := [], laidByText := true, laidKinds := [.data], laidTests := true, laidLooks := .later }
def RobotDeafCardSaid : Prop := Claim7.holds Tryd.pinned (.plain (OpenSpec.ofChange robotDeafSpec)) robotDeafCard

/-- THE TIED CARD OF 'skeplaw18.RobotOld'. -/
def robotOldCard : Claim7 := { stood := { row := robotOldRow, standIns := [], harness := (true, "580e0b16828b6fa424d6d2430258237179893b9474d58e2d9e554b92c0f261a6"), looks := false }, kinds := [], alts := [], laidByText := true, laidKinds := [.data], laidTests := true, laidLooks := .later }
def RobotOldCardSaid : Prop := Claim7.holds Tryd.pinned (.plain (OpenSpec.ofChange robotOldSpec)) robotOldCard

/-- THE TIED CARD OF 'skeplaw18.RobotOnce'. -/
def robotOnceCard : Claim7 := { stood := { row := robotOnceRow, standIns := [], harness := (true, "580e0b16828b6fa424d6d2430258237179893b9474d58e2d9e554b92c0f261a6"), looks := false }, kinds := [], alts := [], laidByText := true, laidKinds := [.data], laidTests := true, laidLooks := .later }
def RobotOnceCardSaid : Prop := Claim7.holds Tryd.pinned (.plain (OpenSpec.ofChange robotOnceSpec)) robotOnceCard

/-- THE SECOND FORM's CARD OF 'skeplaw18.RobotDeaf'. -/
def robotDeafUptoCard : Claim7 := { stood := { row := robotDeafUptoRow, standIns := [], harness := (true, "580e0b16828b6fa424d6d2430258237179893b9474d58e2d9e554b92c0f261a6"), looks := false }, kinds := [], alts := [], laidByText := true, laidKinds := [.data], laidTests := true, laidLooks := .later }
def RobotDeafUptoCardSaid : Prop := Claim7.holds Tryd.pinned (.plain (OpenSpec.upto robotDeafSpec)) robotDeafUptoCard

/-- THE SECOND FORM's CARD OF 'skeplaw18.RobotOld'. -/
def robotOldUptoCard : Claim7 := { stood := { row := robotOldUptoRow, standIns := [], harness := (true, "580e0b16828b6fa424d6d2430258237179893b9474d58e2d9e554b92c0f261a6"), looks := false }, kinds := [], alts := [], laidByText := true, laidKinds := [.data], laidTests := true, laidLooks := .later }
def RobotOldUptoCardSaid : Prop := Claim7.holds Tryd.pinned (.plain (OpenSpec.upto robotOldSpec)) robotOldUptoCard

/-- THE SECOND FORM's CARD OF 'skeplaw18.RobotOnce'. -/
def robotOnceUptoCard : Claim7 := { stood := { row := robotOnceUptoRow, standIns := [], harness := (true, "580e0b16828b6fa424d6d2430258237179893b9474d58e2d9e554b92c0f261a6"), looks := false }, kinds := [], alts := [], laidByText := true, laidKinds := [.data], laidTests := true, laidLooks := .later }
def RobotOnceUptoCardSaid : Prop := Claim7.holds Tryd.pinned (.plain (OpenSpec.upto robotOnceSpec)) robotOnceUptoCard
end Rows
end Go.Proofs.YtcjpnlplibaffaaDoor
