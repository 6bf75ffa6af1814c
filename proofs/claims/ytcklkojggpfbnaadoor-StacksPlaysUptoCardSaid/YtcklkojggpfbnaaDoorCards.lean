/-
  DERIVED. GIVEN WITH THE SEED: THE CARDS: each row of YtcklkojggpfbnaaDoorRows.lean that lists a variable, with what it lists TIED to the program's text (the seventh form; the later family's looks); each row that meets fmt, with fmt's text TOLD by the authors' own Lean function (tested against real Go, not proved from fmt's source: count such statements apart). THE CARD IS WHAT COUNTS. Prove the row's statement (the work); the ties are given (YtcklkojggpfbnaaDoorTie.lean); close each card by the builder's one call (the guide's Derived/Test/ToyasCard.lean, 'card_holds'). Laid BY PROGRAM, IN A SANDBOX (cutbox-door.mjs). By AI agents, Wed Nov 11 2026. No macro, syntax, notation, axiom, sorry.
-/
import Derived.Test.YtcklkojggpfbnaaDoorRows
import GoSem.ClaimSeven
namespace Go.Proofs.YtcklkojggpfbnaaDoor
namespace Rows

/-- THE TIED CARD OF 'skeplaw08.StacksOwn'. -/
def stacksOwnCard : Claim7 := { stood := { row := stacksOwnRow, standIns := [], harness := (true, "e29debe8255b63022698127420dca199f40b6a922234ad263f09e02b24668cb9"), looks := false }, kinds := [], alts := [], laidByText := true, laidKinds := [.data], laidTests := true, laidLooks := .later }
def StacksOwnCardSaid : Prop := Claim7.holds Tryd.pinned (.plain (OpenSpec.ofChange stacksOwnSpec)) stacksOwnCard

/-- THE TIED CARD OF 'skeplaw08.StacksFinds'. -/
def stacksFindsCard : Claim7 := { stood := { row := stacksFindsRow, standIns := [], harness := (true, "e29debe8255b63022698127420dca199f40b6a922234ad263f09e02b24668cb9"), looks := false }, kinds := [], alts := [], laidByText := true, laidKinds := [.data], laidTests := true, laidLooks := .later }
def StacksFindsCardSaid : Prop := Claim7.holds Tryd.pinned (.plain (OpenSpec.ofChange stacksFindsSpec)) stacksFindsCard

/-- THE TIED CARD OF 'skeplaw08.StacksBack'. -/
def stacksBackCard : Claim7 := { stood := { row := stacksBackRow, standIns := [], harness := (true, "e29debe8255b63022698127420dca199f40b6a922234ad263f09e02b24668cb9"), looks := false }, kinds := [], alts := [], laidByText := true, laidKinds := [.data], laidTests := true, laidLooks := .later }
def StacksBackCardSaid : Prop := Claim7.holds Tryd.pinned (.plain (OpenSpec.ofChange stacksBackSpec)) stacksBackCard

/-- THE TIED CARD OF 'skeplaw08.StacksTurned'. -/
def stacksTurnedCard : Claim7 := { stood := { row := stacksTurnedRow, standIns := [], harness := (true, "e29debe8255b63022698127420dca199f40b6a922234ad263f09e02b24668cb9"), looks := false }, kinds := [], alts := [], laidByText := true, laidKinds := [.data], laidTests := true, laidLooks := .later }
def StacksTurnedCardSaid : Prop := Claim7.holds Tryd.pinned (.plain (OpenSpec.ofChange stacksTurnedSpec)) stacksTurnedCard

/-- THE TIED CARD OF 'skeplaw08.StacksFull'. -/
def stacksFullCard : Claim7 := { stood := { row := stacksFullRow, standIns := [], harness := (true, "e29debe8255b63022698127420dca199f40b6a922234ad263f09e02b24668cb9"), looks := false }, kinds := [], alts := [], laidByText := true, laidKinds := [.data], laidTests := true, laidLooks := .later }
def StacksFullCardSaid : Prop := Claim7.holds Tryd.pinned (.plain (OpenSpec.ofChange stacksFullSpec)) stacksFullCard

/-- THE TIED CARD OF 'skeplaw08.StacksKept'. -/
def stacksKeptCard : Claim7 := { stood := { row := stacksKeptRow, standIns := [], harness := (true, "e29debe8255b63022698127420dca199f40b6a922234ad263f09e02b24668cb9"), looks := false }, kinds := [], alts := [], laidByText := true, laidKinds := [.data], laidTests := true, laidLooks := .later }
def StacksKeptCardSaid : Prop := Claim7.holds Tryd.pinned (.plain (OpenSpec.ofChange stacksKeptSpec)) stacksKeptCard

/-- THE TIED CARD OF 'skeplaw08.StacksPlays'. -/
def stacksPlaysCard : Claim7 := { stood := { row := stacksPlaysRow, standIns := [], harness := (true, "e29debe8255b63022698127420dca199f40b6a922234ad263f09e02b24668cb9"), looks := false }, kinds := [], alts := [], laidByText := true, laidKinds := [.data], laidTests := true, laidLooks := .later }
def StacksPlaysCardSaid : Prop := Claim7.holds Tryd.pinned (.plain (OpenSpec.ofChange stacksPlaysSpec)) stacksPlaysCard

/-- THE SECOND FORM's CARD OF 'skeplaw08.StacksOwn'. -/
def stacksOwnUptoCard : Claim7 := { stood := { row := stacksOwnUptoRow, standIns := [], harness := (true, "e29debe8255b63022698127420dca199f40b6a922234ad263f09e02b24668cb9"), looks := false }, kinds := [], alts := [], laidByText := true, laidKinds := [.data], laidTests := true, laidLooks := .later }
def StacksOwnUptoCardSaid : Prop := Claim7.holds Tryd.pinned (.plain (OpenSpec.upto stacksOwnSpec)) stacksOwnUptoCard

/-- THE SECOND FORM's CARD OF 'skeplaw08.StacksFinds'. -/
def stacksFindsUptoCard : Claim7 := { stood := { row := stacksFindsUptoRow, standIns := [], harness := (true, "e29debe8255b63022698127420dca199f40b6a922234ad263f09e02b24668cb9"), looks := false }, kinds := [], alts := [], laidByText := true, laidKinds := [.data], laidTests := true, laidLooks := .later }
def StacksFindsUptoCardSaid : Prop := Claim7.holds Tryd.pinned (.plain (OpenSpec.upto stacksFindsSpec)) stacksFindsUptoCard

/-- THE SECOND FORM's CARD OF 'skeplaw08.StacksBack'. -/
def stacksBackUptoCard : Claim7 := { stood := { row := stacksBackUptoRow, standIns := [], harness := (true, "e29debe8255b63022698127420dca199f40b6a922234ad263f09e02b24668cb9"), looks := false }, kinds := [], alts := [], laidByText := true, laidKinds := [.data], laidTests := true, laidLooks := .later }
def StacksBackUptoCardSaid : Prop := Claim7.holds Tryd.pinned (.plain (OpenSpec.upto stacksBackSpec)) stacksBackUptoCard

/-- THE SECOND FORM's CARD OF 'skeplaw08.StacksTurned'. -/
def stacksTurnedUptoCard : Claim7 := { stood := { row := stacksTurnedUptoRow, standIns := [], harness := (true, "e29debe8255b63022698127420dca199f40b6a922234ad263f09e02b24668cb9"), looks := false }, kinds := [], alts := [], laidByText := true, laidKinds := [.data], laidTests := true, laidLooks := .later }
def StacksTurnedUptoCardSaid : Prop := Claim7.holds Tryd.pinned (.plain (OpenSpec.upto stacksTurnedSpec)) stacksTurnedUptoCard

/-- THE SECOND FORM's CARD OF 'skeplaw08.StacksFull'. -/
def stacksFullUptoCard : Claim7 := { stood := { row := stacksFullUptoRow, standIns := [], harness := (true, "e29debe8255b63022698127420dca199f40b6a922234ad263f09e02b24668cb9"), looks := false }, kinds := [], alts := [], laidByText := true, laidKinds := [.data], laidTests := true, laidLooks := .later }
def StacksFullUptoCardSaid : Prop := Claim7.holds Tryd.pinned (.plain (OpenSpec.upto stacksFullSpec)) stacksFullUptoCard

/-- THE SECOND FORM's CARD OF 'skeplaw08.StacksKept'. -/
def stacksKeptUptoCard : Claim7 := { stood := { row := stacksKeptUptoRow, standIns := [], harness := (true, "e29debe8255b63022698127420dca199f40b6a922234ad263f09e02b24668cb9"), looks := false }, kinds := [], alts := [], laidByText := true, laidKinds := [.data], laidTests := true, laidLooks := .later }
def StacksKeptUptoCardSaid : Prop := Claim7.holds Tryd.pinned (.plain (OpenSpec.upto stacksKeptSpec)) stacksKeptUptoCard

/-- THE SECOND FORM's CARD OF 'skeplaw08.StacksPlays'. -/
def stacksPlaysUptoCard : Claim7 := { stood := { row := stacksPlaysUptoRow, standIns := [], harness := (true, "e29debe8255b63022698127420dca199f40b6a922234ad263f09e02b24668cb9"), looks := false }, kinds := [], alts := [], laidByText := true, laidKinds := [.data], laidTests := true, laidLooks := .later }
def StacksPlaysUptoCardSaid : Prop := Claim7.holds Tryd.pinned (.plain (OpenSpec.upto stacksPlaysSpec)) stacksPlaysUptoCard
end Rows
end Go.Proofs.YtcklkojggpfbnaaDoor
