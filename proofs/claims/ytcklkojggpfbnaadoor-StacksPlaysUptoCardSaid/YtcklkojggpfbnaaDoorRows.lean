/-
  NARROWER THAN 'FOR EVERY INPUT', by the rows' own cells (each row's printed sentence says how): StacksOwn: laid · StacksFinds: laid · StacksBack: laid · StacksTurned: laid · StacksFull: laid · StacksKept: laid · StacksPlays: laid.
  DERIVED. THE GIVEN ROWS OF THIS SEAT. 7 by the template 'for every input the law returns true; each argument reads behind the call as it read before'; 0 by the template 'total and deterministic' (their statements: YtcklkojggpfbnaaDoorTotals.lean).
  GIVEN WITH THE SEED: the statements are not yours to turn. If you find one false, say at which input.
  Laid BY PROGRAM, IN A SANDBOX (cutbox-rows.mjs): the forced cells as the released guide's own fill.sh prints them over the translation 95f53b98b7d5cc2e… (all of the seat's roots in one cut). By AI agents, Wed Nov 11 2026. No macro, syntax, notation, axiom, sorry.
-/
import Derived.Test.YtcklkojggpfbnaaDoorChecked
import GoSem.Claim
import GoSem.ClaimJoined
import GoSem.ClaimMapViews
import Derived.JoinedTies
import Derived.KernelRfl
namespace Go.Proofs.YtcklkojggpfbnaaDoor
/- THE CELL 'sum', in the pinned program and in every row, IS THE sha256 OF THE DUMP (.gsa) THAT YtcklkojggpfbnaaDoorProg.lean LOADS. Nothing in Lean hashes anything: it is a label: what it is worth is what the hold of that sum in a sandbox is worth. -/
noncomputable def Tryd.pinned : Pinned := { name := "ytcklkojggpfbnaadoor", sum := "95f53b98b7d5cc2e85e5719556ec2287a2c24535e0998f393a492559a88deb82", checked := Tryd.checked }
namespace Rows
def none {H : Type} : Left H := { results := [], args := [] }

/- WHAT THE LISTED PACKAGE-LEVEL VARIABLES READ AS WHEN THE CALL BEGINS. Each datum BY PROGRAM (the guide's laid-datum.mjs) off the statement by which the dump's own 'gosem.cut.vars' lays the variable. In a bare row this is a premise. The card (YtcklkojggpfbnaaDoorCards.lean) ties it to the program's text. -/
def laid_skep_grid_steps {H : Type} : DataW H := .agg [.agg [.lit (.int .i64 0), .lit (.int .i64 (-1))], .agg [.lit (.int .i64 1), .lit (.int .i64 0)], .agg [.lit (.int .i64 0), .lit (.int .i64 1)], .agg [.lit (.int .i64 (-1)), .lit (.int .i64 0)]]

/-- 'skeplaw08.StacksOwn': WHATEVER THE INPUT: true; the input reads as it did. -/
def stacksOwnSpec : ChangeSpec := { name := "stacksOwn", fn := fun _ => fun
  | [d1, d2] => { results := [.lit (.bool true)], args := [d1, d2] }
  | _ => none }
def stacksOwnRow : OpenClaim := { program := "ytcklkojggpfbnaadoor", sum := "95f53b98b7d5cc2e85e5719556ec2287a2c24535e0998f393a492559a88deb82", func := "skep/skeplaw08.StacksOwn", spec := "stacksOwn", unfollowed := true, recurses := true, named := ["skep/grid.steps"], apart := false, laid := [("skep/grid.steps", laid_skep_grid_steps)] }
def StacksOwnSaid : Prop := stacksOwnRow.holds Tryd.pinned (OpenSpec.ofChange stacksOwnSpec)

/-- ITS FALSE NEIGHBOUR: 'it returns false'. Refute it at one input. -/
def stacksOwnWrong : ChangeSpec := { name := "stacksOwn", fn := fun _ => fun
  | [d1, d2] => { results := [.lit (.bool false)], args := [d1, d2] }
  | _ => none }
def StacksOwnWrongFalsely : Prop := stacksOwnRow.holds Tryd.pinned (OpenSpec.ofChange stacksOwnWrong)

/-- 'skeplaw08.StacksFinds': WHATEVER THE INPUT: true; the input reads as it did. -/
def stacksFindsSpec : ChangeSpec := { name := "stacksFinds", fn := fun _ => fun
  | [d1, d2, d3] => { results := [.lit (.bool true)], args := [d1, d2, d3] }
  | _ => none }
def stacksFindsRow : OpenClaim := { program := "ytcklkojggpfbnaadoor", sum := "95f53b98b7d5cc2e85e5719556ec2287a2c24535e0998f393a492559a88deb82", func := "skep/skeplaw08.StacksFinds", spec := "stacksFinds", named := ["skep/grid.steps"], apart := false, laid := [("skep/grid.steps", laid_skep_grid_steps)] }
def StacksFindsSaid : Prop := stacksFindsRow.holds Tryd.pinned (OpenSpec.ofChange stacksFindsSpec)

/-- ITS FALSE NEIGHBOUR: 'it returns false'. Refute it at one input. -/
def stacksFindsWrong : ChangeSpec := { name := "stacksFinds", fn := fun _ => fun
  | [d1, d2, d3] => { results := [.lit (.bool false)], args := [d1, d2, d3] }
  | _ => none }
def StacksFindsWrongFalsely : Prop := stacksFindsRow.holds Tryd.pinned (OpenSpec.ofChange stacksFindsWrong)

/-- 'skeplaw08.StacksBack': WHATEVER THE INPUT: true; the input reads as it did. -/
def stacksBackSpec : ChangeSpec := { name := "stacksBack", fn := fun _ => fun
  | [d1, d2, d3, d4] => { results := [.lit (.bool true)], args := [d1, d2, d3, d4] }
  | _ => none }
def stacksBackRow : OpenClaim := { program := "ytcklkojggpfbnaadoor", sum := "95f53b98b7d5cc2e85e5719556ec2287a2c24535e0998f393a492559a88deb82", func := "skep/skeplaw08.StacksBack", spec := "stacksBack", unfollowed := true, recurses := true, named := ["skep/grid.steps"], apart := false, laid := [("skep/grid.steps", laid_skep_grid_steps)] }
def StacksBackSaid : Prop := stacksBackRow.holds Tryd.pinned (OpenSpec.ofChange stacksBackSpec)

/-- ITS FALSE NEIGHBOUR: 'it returns false'. Refute it at one input. -/
def stacksBackWrong : ChangeSpec := { name := "stacksBack", fn := fun _ => fun
  | [d1, d2, d3, d4] => { results := [.lit (.bool false)], args := [d1, d2, d3, d4] }
  | _ => none }
def StacksBackWrongFalsely : Prop := stacksBackRow.holds Tryd.pinned (OpenSpec.ofChange stacksBackWrong)

/-- 'skeplaw08.StacksTurned': WHATEVER THE INPUT: true; the input reads as it did. -/
def stacksTurnedSpec : ChangeSpec := { name := "stacksTurned", fn := fun _ => fun
  | [d1, d2, d3] => { results := [.lit (.bool true)], args := [d1, d2, d3] }
  | _ => none }
def stacksTurnedRow : OpenClaim := { program := "ytcklkojggpfbnaadoor", sum := "95f53b98b7d5cc2e85e5719556ec2287a2c24535e0998f393a492559a88deb82", func := "skep/skeplaw08.StacksTurned", spec := "stacksTurned", named := ["skep/grid.steps"], apart := false, laid := [("skep/grid.steps", laid_skep_grid_steps)] }
def StacksTurnedSaid : Prop := stacksTurnedRow.holds Tryd.pinned (OpenSpec.ofChange stacksTurnedSpec)

/-- ITS FALSE NEIGHBOUR: 'it returns false'. Refute it at one input. -/
def stacksTurnedWrong : ChangeSpec := { name := "stacksTurned", fn := fun _ => fun
  | [d1, d2, d3] => { results := [.lit (.bool false)], args := [d1, d2, d3] }
  | _ => none }
def StacksTurnedWrongFalsely : Prop := stacksTurnedRow.holds Tryd.pinned (OpenSpec.ofChange stacksTurnedWrong)

/-- 'skeplaw08.StacksFull': WHATEVER THE INPUT: true; the input reads as it did. -/
def stacksFullSpec : ChangeSpec := { name := "stacksFull", fn := fun _ => fun
  | [d1, d2] => { results := [.lit (.bool true)], args := [d1, d2] }
  | _ => none }
def stacksFullRow : OpenClaim := { program := "ytcklkojggpfbnaadoor", sum := "95f53b98b7d5cc2e85e5719556ec2287a2c24535e0998f393a492559a88deb82", func := "skep/skeplaw08.StacksFull", spec := "stacksFull", unfollowed := true, recurses := true, named := ["skep/grid.steps"], apart := false, laid := [("skep/grid.steps", laid_skep_grid_steps)] }
def StacksFullSaid : Prop := stacksFullRow.holds Tryd.pinned (OpenSpec.ofChange stacksFullSpec)

/-- ITS FALSE NEIGHBOUR: 'it returns false'. Refute it at one input. -/
def stacksFullWrong : ChangeSpec := { name := "stacksFull", fn := fun _ => fun
  | [d1, d2] => { results := [.lit (.bool false)], args := [d1, d2] }
  | _ => none }
def StacksFullWrongFalsely : Prop := stacksFullRow.holds Tryd.pinned (OpenSpec.ofChange stacksFullWrong)

/-- 'skeplaw08.StacksKept': WHATEVER THE INPUT: true; the input reads as it did. -/
def stacksKeptSpec : ChangeSpec := { name := "stacksKept", fn := fun _ => fun
  | [d1, d2] => { results := [.lit (.bool true)], args := [d1, d2] }
  | _ => none }
def stacksKeptRow : OpenClaim := { program := "ytcklkojggpfbnaadoor", sum := "95f53b98b7d5cc2e85e5719556ec2287a2c24535e0998f393a492559a88deb82", func := "skep/skeplaw08.StacksKept", spec := "stacksKept", recurses := true, named := ["skep/grid.steps"], apart := false, laid := [("skep/grid.steps", laid_skep_grid_steps)] }
def StacksKeptSaid : Prop := stacksKeptRow.holds Tryd.pinned (OpenSpec.ofChange stacksKeptSpec)

/-- ITS FALSE NEIGHBOUR: 'it returns false'. Refute it at one input. -/
def stacksKeptWrong : ChangeSpec := { name := "stacksKept", fn := fun _ => fun
  | [d1, d2] => { results := [.lit (.bool false)], args := [d1, d2] }
  | _ => none }
def StacksKeptWrongFalsely : Prop := stacksKeptRow.holds Tryd.pinned (OpenSpec.ofChange stacksKeptWrong)

/-- 'skeplaw08.StacksPlays': WHATEVER THE INPUT: true; the input reads as it did. -/
def stacksPlaysSpec : ChangeSpec := { name := "stacksPlays", fn := fun _ => fun
  | [d1, d2] => { results := [.lit (.bool true)], args := [d1, d2] }
  | _ => none }
def stacksPlaysRow : OpenClaim := { program := "ytcklkojggpfbnaadoor", sum := "95f53b98b7d5cc2e85e5719556ec2287a2c24535e0998f393a492559a88deb82", func := "skep/skeplaw08.StacksPlays", spec := "stacksPlays", unfollowed := true, recurses := true, named := ["skep/grid.steps"], apart := false, laid := [("skep/grid.steps", laid_skep_grid_steps)] }
def StacksPlaysSaid : Prop := stacksPlaysRow.holds Tryd.pinned (OpenSpec.ofChange stacksPlaysSpec)

/-- ITS FALSE NEIGHBOUR: 'it returns false'. Refute it at one input. -/
def stacksPlaysWrong : ChangeSpec := { name := "stacksPlays", fn := fun _ => fun
  | [d1, d2] => { results := [.lit (.bool false)], args := [d1, d2] }
  | _ => none }
def StacksPlaysWrongFalsely : Prop := stacksPlaysRow.holds Tryd.pinned (OpenSpec.ofChange stacksPlaysWrong)

/- THE SECOND FORM. 'bulk': how many values and letters a reading holds, each counted each time it is reached (what is shared counts as often as it is met; a slice's spare places count too). A statement '..UptoSaid' is the law's where the arguments, and the package variables that the reading takes, are together of bulk at most 1048576: NARROWER than '..Said'. Prove '..Said' where nothing that the law and all that it calls make is longer than what came in: it says more and counts as full. Else prove '..UptoSaid'. A law counts once. -/
mutual
def uptoBulk {H : Type} : DataW H → Nat
  | .lit (.string bytes) => bytes.length + 1
  | .lit _ => 1
  | .nil => 1
  | .ptr d => uptoBulk d + 1
  | .slice elems spare => uptoBulkAll elems + uptoBulkAll spare + 1
  | .agg parts => uptoBulkAll parts + 1
  | .iface _ d => uptoBulk d + 1
  | .map entries => uptoBulkEntries entries + 1
  | .held _ => 1
def uptoBulkAll {H : Type} : List (DataW H) → Nat
  | [] => 0
  | d :: r => uptoBulk d + uptoBulkAll r
def uptoBulkEntries {H : Type} : List (Lit × DataW H) → Nat
  | [] => 0
  | x :: r => uptoBulkEntry x + uptoBulkEntries r
def uptoBulkEntry {H : Type} : Lit × DataW H → Nat
  | (.string bytes, d) => bytes.length + uptoBulk d + 1
  | (_, d) => uptoBulk d + 1
 end
def uptoSmall : (H : Type) → List (DataW H) → Bool := fun _ ds => decide (uptoBulkAll ds ≤ 1048576)
def OpenSpec.upto (s : _root_.Go.ChangeSpec) : _root_.Go.OpenSpec := { _root_.Go.OpenSpec.ofChange s with cond := some uptoSmall }

/-- 'skeplaw08.StacksOwn', WHERE WHAT IT READS IS OF BULK AT MOST 1048576: true; the input reads as it did. -/
def stacksOwnUptoRow : OpenClaim := { program := "ytcklkojggpfbnaadoor", sum := "95f53b98b7d5cc2e85e5719556ec2287a2c24535e0998f393a492559a88deb82", func := "skep/skeplaw08.StacksOwn", spec := "stacksOwn", unfollowed := true, recurses := true, named := ["skep/grid.steps"], apart := false, laid := [("skep/grid.steps", laid_skep_grid_steps)], narrowed := true }
def StacksOwnUptoSaid : Prop := stacksOwnUptoRow.holds Tryd.pinned (OpenSpec.upto stacksOwnSpec)

/-- 'skeplaw08.StacksFinds', WHERE WHAT IT READS IS OF BULK AT MOST 1048576: true; the input reads as it did. -/
def stacksFindsUptoRow : OpenClaim := { program := "ytcklkojggpfbnaadoor", sum := "95f53b98b7d5cc2e85e5719556ec2287a2c24535e0998f393a492559a88deb82", func := "skep/skeplaw08.StacksFinds", spec := "stacksFinds", named := ["skep/grid.steps"], apart := false, laid := [("skep/grid.steps", laid_skep_grid_steps)], narrowed := true }
def StacksFindsUptoSaid : Prop := stacksFindsUptoRow.holds Tryd.pinned (OpenSpec.upto stacksFindsSpec)

/-- 'skeplaw08.StacksBack', WHERE WHAT IT READS IS OF BULK AT MOST 1048576: true; the input reads as it did. -/
def stacksBackUptoRow : OpenClaim := { program := "ytcklkojggpfbnaadoor", sum := "95f53b98b7d5cc2e85e5719556ec2287a2c24535e0998f393a492559a88deb82", func := "skep/skeplaw08.StacksBack", spec := "stacksBack", unfollowed := true, recurses := true, named := ["skep/grid.steps"], apart := false, laid := [("skep/grid.steps", laid_skep_grid_steps)], narrowed := true }
def StacksBackUptoSaid : Prop := stacksBackUptoRow.holds Tryd.pinned (OpenSpec.upto stacksBackSpec)

/-- 'skeplaw08.StacksTurned', WHERE WHAT IT READS IS OF BULK AT MOST 1048576: true; the input reads as it did. -/
def stacksTurnedUptoRow : OpenClaim := { program := "ytcklkojggpfbnaadoor", sum := "95f53b98b7d5cc2e85e5719556ec2287a2c24535e0998f393a492559a88deb82", func := "skep/skeplaw08.StacksTurned", spec := "stacksTurned", named := ["skep/grid.steps"], apart := false, laid := [("skep/grid.steps", laid_skep_grid_steps)], narrowed := true }
def StacksTurnedUptoSaid : Prop := stacksTurnedUptoRow.holds Tryd.pinned (OpenSpec.upto stacksTurnedSpec)

/-- 'skeplaw08.StacksFull', WHERE WHAT IT READS IS OF BULK AT MOST 1048576: true; the input reads as it did. -/
def stacksFullUptoRow : OpenClaim := { program := "ytcklkojggpfbnaadoor", sum := "95f53b98b7d5cc2e85e5719556ec2287a2c24535e0998f393a492559a88deb82", func := "skep/skeplaw08.StacksFull", spec := "stacksFull", unfollowed := true, recurses := true, named := ["skep/grid.steps"], apart := false, laid := [("skep/grid.steps", laid_skep_grid_steps)], narrowed := true }
def StacksFullUptoSaid : Prop := stacksFullUptoRow.holds Tryd.pinned (OpenSpec.upto stacksFullSpec)

/-- 'skeplaw08.StacksKept', WHERE WHAT IT READS IS OF BULK AT MOST 1048576: true; the input reads as it did. -/
def stacksKeptUptoRow : OpenClaim := { program := "ytcklkojggpfbnaadoor", sum := "95f53b98b7d5cc2e85e5719556ec2287a2c24535e0998f393a492559a88deb82", func := "skep/skeplaw08.StacksKept", spec := "stacksKept", recurses := true, named := ["skep/grid.steps"], apart := false, laid := [("skep/grid.steps", laid_skep_grid_steps)], narrowed := true }
def StacksKeptUptoSaid : Prop := stacksKeptUptoRow.holds Tryd.pinned (OpenSpec.upto stacksKeptSpec)

/-- 'skeplaw08.StacksPlays', WHERE WHAT IT READS IS OF BULK AT MOST 1048576: true; the input reads as it did. -/
def stacksPlaysUptoRow : OpenClaim := { program := "ytcklkojggpfbnaadoor", sum := "95f53b98b7d5cc2e85e5719556ec2287a2c24535e0998f393a492559a88deb82", func := "skep/skeplaw08.StacksPlays", spec := "stacksPlays", unfollowed := true, recurses := true, named := ["skep/grid.steps"], apart := false, laid := [("skep/grid.steps", laid_skep_grid_steps)], narrowed := true }
def StacksPlaysUptoSaid : Prop := stacksPlaysUptoRow.holds Tryd.pinned (OpenSpec.upto stacksPlaysSpec)

end Rows
end Go.Proofs.YtcklkojggpfbnaaDoor
