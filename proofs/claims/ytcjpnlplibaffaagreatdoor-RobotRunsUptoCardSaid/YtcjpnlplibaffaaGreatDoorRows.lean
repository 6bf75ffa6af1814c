/-
  NARROWER THAN 'FOR EVERY INPUT', by the rows' own cells (each row's printed sentence says how): RobotDelays: laid · RobotThere: laid · RobotStops: laid · RobotPlays: laid · RobotRuns: laid.
  DERIVED. THE GIVEN ROWS OF THIS SEAT. 5 by the template 'for every input the law returns true; each argument reads behind the call as it read before'; 0 by the template 'total and deterministic' (their statements: YtcjpnlplibaffaaGreatDoorTotals.lean).
  GIVEN WITH THE SEED: the statements are not yours to turn. If you find one false, say at which input.
  Laid BY PROGRAM, IN A SANDBOX (cutbox-rows.mjs): the forced cells as the released guide's own fill.sh prints them over the translation 9a51a3a6954c2a4a… (all of the seat's roots in one cut). By AI agents, Wed Nov 11 2026. No macro, syntax, notation, axiom, sorry.
-/
import Derived.Test.YtcjpnlplibaffaaGreatDoorChecked
import GoSem.Claim
import GoSem.ClaimJoined
import GoSem.ClaimMapViews
import Derived.JoinedTies
import Derived.KernelRfl
namespace Go.Proofs.YtcjpnlplibaffaaGreatDoor
/- THE CELL 'sum', in the pinned program and in every row, IS THE sha256 OF THE DUMP (.gsa) THAT YtcjpnlplibaffaaGreatDoorProg.lean LOADS. Nothing in Lean hashes anything: it is a label: what it is worth is what the hold of that sum in a sandbox is worth. -/
noncomputable def Tryz.pinned : Pinned := { name := "ytcjpnlplibaffaagreatdoor", sum := "9a51a3a6954c2a4a69376d8890bc1f268fb23cdfa66510963c0c4541b4710eec", checked := Tryz.checked }
namespace Rows
def none {H : Type} : Left H := { results := [], args := [] }

/- WHAT THE LISTED PACKAGE-LEVEL VARIABLES READ AS WHEN THE CALL BEGINS. Each datum BY PROGRAM (the guide's laid-datum.mjs) off the statement by which the dump's own 'gosem.cut.vars' lays the variable. In a bare row this is a premise. The card (YtcjpnlplibaffaaGreatDoorCards.lean) ties it to the program's text. -/
def laid_skep_grid_steps {H : Type} : DataW H := .agg [.agg [.lit (.int .i64 0), .lit (.int .i64 (-1))], .agg [.lit (.int .i64 1), .lit (.int .i64 0)], .agg [.lit (.int .i64 0), .lit (.int .i64 1)], .agg [.lit (.int .i64 (-1)), .lit (.int .i64 0)]]

/-- 'skeplaw18.RobotDelays': WHATEVER THE INPUT: true; the input reads as it did. -/
def robotDelaysSpec : ChangeSpec := { name := "robotDelays", fn := fun _ => fun
  | [d1, d2, d3] => { results := [.lit (.bool true)], args := [d1, d2, d3] }
  | _ => none }
def robotDelaysRow : OpenClaim := { program := "ytcjpnlplibaffaagreatdoor", sum := "9a51a3a6954c2a4a69376d8890bc1f268fb23cdfa66510963c0c4541b4710eec", func := "skep/skeplaw18.RobotDelays", spec := "robotDelays", inPlace := ["sync/atomic.LoadUint32", "(*internal/sync.Mutex).Lock", "internal/race.Disable", "sync/atomic.CompareAndSwapInt32", "internal/race.Enable", "internal/race.Acquire", "(*internal/sync.Mutex).lockSlow", "internal/sync.runtime_canSpin", "internal/sync.runtime_doSpin", "internal/sync.throw", "internal/sync.runtime_nanotime", "internal/sync.runtime_SemacquireMutex", "sync/atomic.AddInt32", "(*internal/sync.Mutex).Unlock", "internal/race.ReleaseMerge", "(*internal/sync.Mutex).unlockSlow", "internal/sync.fatal", "internal/sync.runtime_Semrelease", "sync/atomic.StoreUint32"], unfollowed := true, recurses := true, named := ["skep/grid.steps"], apart := false, laid := [("skep/grid.steps", laid_skep_grid_steps)] }
def RobotDelaysSaid : Prop := robotDelaysRow.holds Tryz.pinned (OpenSpec.ofChange robotDelaysSpec)

/-- ITS FALSE NEIGHBOUR: 'it returns false'. Refute it at one input. -/
def robotDelaysWrong : ChangeSpec := { name := "robotDelays", fn := fun _ => fun
  | [d1, d2, d3] => { results := [.lit (.bool false)], args := [d1, d2, d3] }
  | _ => none }
def RobotDelaysWrongFalsely : Prop := robotDelaysRow.holds Tryz.pinned (OpenSpec.ofChange robotDelaysWrong)

/-- 'skeplaw18.RobotThere': WHATEVER THE INPUT: true; the input reads as it did. -/
def robotThereSpec : ChangeSpec := { name := "robotThere", fn := fun _ => fun
  | [d1, d2] => { results := [.lit (.bool true)], args := [d1, d2] }
  | _ => none }
def robotThereRow : OpenClaim := { program := "ytcjpnlplibaffaagreatdoor", sum := "9a51a3a6954c2a4a69376d8890bc1f268fb23cdfa66510963c0c4541b4710eec", func := "skep/skeplaw18.RobotThere", spec := "robotThere", inPlace := ["sync/atomic.LoadUint32", "(*internal/sync.Mutex).Lock", "internal/race.Disable", "sync/atomic.CompareAndSwapInt32", "internal/race.Enable", "internal/race.Acquire", "(*internal/sync.Mutex).lockSlow", "internal/sync.runtime_canSpin", "internal/sync.runtime_doSpin", "internal/sync.throw", "internal/sync.runtime_nanotime", "internal/sync.runtime_SemacquireMutex", "sync/atomic.AddInt32", "(*internal/sync.Mutex).Unlock", "internal/race.ReleaseMerge", "(*internal/sync.Mutex).unlockSlow", "internal/sync.fatal", "internal/sync.runtime_Semrelease", "sync/atomic.StoreUint32"], unfollowed := true, recurses := true, named := ["skep/grid.steps"], apart := false, laid := [("skep/grid.steps", laid_skep_grid_steps)] }
def RobotThereSaid : Prop := robotThereRow.holds Tryz.pinned (OpenSpec.ofChange robotThereSpec)

/-- ITS FALSE NEIGHBOUR: 'it returns false'. Refute it at one input. -/
def robotThereWrong : ChangeSpec := { name := "robotThere", fn := fun _ => fun
  | [d1, d2] => { results := [.lit (.bool false)], args := [d1, d2] }
  | _ => none }
def RobotThereWrongFalsely : Prop := robotThereRow.holds Tryz.pinned (OpenSpec.ofChange robotThereWrong)

/-- 'skeplaw18.RobotStops': WHATEVER THE INPUT: true; the input reads as it did. -/
def robotStopsSpec : ChangeSpec := { name := "robotStops", fn := fun _ => fun
  | [d1, d2, d3, d4] => { results := [.lit (.bool true)], args := [d1, d2, d3, d4] }
  | _ => none }
def robotStopsRow : OpenClaim := { program := "ytcjpnlplibaffaagreatdoor", sum := "9a51a3a6954c2a4a69376d8890bc1f268fb23cdfa66510963c0c4541b4710eec", func := "skep/skeplaw18.RobotStops", spec := "robotStops", inPlace := ["sync/atomic.LoadUint32", "(*internal/sync.Mutex).Lock", "internal/race.Disable", "sync/atomic.CompareAndSwapInt32", "internal/race.Enable", "internal/race.Acquire", "(*internal/sync.Mutex).lockSlow", "internal/sync.runtime_canSpin", "internal/sync.runtime_doSpin", "internal/sync.throw", "internal/sync.runtime_nanotime", "internal/sync.runtime_SemacquireMutex", "sync/atomic.AddInt32", "(*internal/sync.Mutex).Unlock", "internal/race.ReleaseMerge", "(*internal/sync.Mutex).unlockSlow", "internal/sync.fatal", "internal/sync.runtime_Semrelease", "sync/atomic.StoreUint32"], unfollowed := true, recurses := true, named := ["skep/grid.steps"], apart := false, laid := [("skep/grid.steps", laid_skep_grid_steps)] }
def RobotStopsSaid : Prop := robotStopsRow.holds Tryz.pinned (OpenSpec.ofChange robotStopsSpec)

/-- ITS FALSE NEIGHBOUR: 'it returns false'. Refute it at one input. -/
def robotStopsWrong : ChangeSpec := { name := "robotStops", fn := fun _ => fun
  | [d1, d2, d3, d4] => { results := [.lit (.bool false)], args := [d1, d2, d3, d4] }
  | _ => none }
def RobotStopsWrongFalsely : Prop := robotStopsRow.holds Tryz.pinned (OpenSpec.ofChange robotStopsWrong)

/-- 'skeplaw18.RobotPlays': WHATEVER THE INPUT: true; the input reads as it did. -/
def robotPlaysSpec : ChangeSpec := { name := "robotPlays", fn := fun _ => fun
  | [d1, d2, d3] => { results := [.lit (.bool true)], args := [d1, d2, d3] }
  | _ => none }
def robotPlaysRow : OpenClaim := { program := "ytcjpnlplibaffaagreatdoor", sum := "9a51a3a6954c2a4a69376d8890bc1f268fb23cdfa66510963c0c4541b4710eec", func := "skep/skeplaw18.RobotPlays", spec := "robotPlays", inPlace := ["sync/atomic.LoadUint32", "(*internal/sync.Mutex).Lock", "internal/race.Disable", "sync/atomic.CompareAndSwapInt32", "internal/race.Enable", "internal/race.Acquire", "(*internal/sync.Mutex).lockSlow", "internal/sync.runtime_canSpin", "internal/sync.runtime_doSpin", "internal/sync.throw", "internal/sync.runtime_nanotime", "internal/sync.runtime_SemacquireMutex", "sync/atomic.AddInt32", "(*internal/sync.Mutex).Unlock", "internal/race.ReleaseMerge", "(*internal/sync.Mutex).unlockSlow", "internal/sync.fatal", "internal/sync.runtime_Semrelease", "sync/atomic.StoreUint32"], unfollowed := true, recurses := true, named := ["skep/grid.steps"], apart := false, laid := [("skep/grid.steps", laid_skep_grid_steps)] }
def RobotPlaysSaid : Prop := robotPlaysRow.holds Tryz.pinned (OpenSpec.ofChange robotPlaysSpec)

/-- ITS FALSE NEIGHBOUR: 'it returns false'. Refute it at one input. -/
def robotPlaysWrong : ChangeSpec := { name := "robotPlays", fn := fun _ => fun
  | [d1, d2, d3] => { results := [.lit (.bool false)], args := [d1, d2, d3] }
  | _ => none }
def RobotPlaysWrongFalsely : Prop := robotPlaysRow.holds Tryz.pinned (OpenSpec.ofChange robotPlaysWrong)

/-- 'skeplaw18.RobotRuns': WHATEVER THE INPUT: true; the input reads as it did. -/
def robotRunsSpec : ChangeSpec := { name := "robotRuns", fn := fun _ => fun
  | [d1, d2, d3] => { results := [.lit (.bool true)], args := [d1, d2, d3] }
  | _ => none }
def robotRunsRow : OpenClaim := { program := "ytcjpnlplibaffaagreatdoor", sum := "9a51a3a6954c2a4a69376d8890bc1f268fb23cdfa66510963c0c4541b4710eec", func := "skep/skeplaw18.RobotRuns", spec := "robotRuns", inPlace := ["sync/atomic.LoadUint32", "(*internal/sync.Mutex).Lock", "internal/race.Disable", "sync/atomic.CompareAndSwapInt32", "internal/race.Enable", "internal/race.Acquire", "(*internal/sync.Mutex).lockSlow", "internal/sync.runtime_canSpin", "internal/sync.runtime_doSpin", "internal/sync.throw", "internal/sync.runtime_nanotime", "internal/sync.runtime_SemacquireMutex", "sync/atomic.AddInt32", "(*internal/sync.Mutex).Unlock", "internal/race.ReleaseMerge", "(*internal/sync.Mutex).unlockSlow", "internal/sync.fatal", "internal/sync.runtime_Semrelease", "sync/atomic.StoreUint32"], unfollowed := true, recurses := true, named := ["skep/grid.steps"], apart := false, laid := [("skep/grid.steps", laid_skep_grid_steps)] }
def RobotRunsSaid : Prop := robotRunsRow.holds Tryz.pinned (OpenSpec.ofChange robotRunsSpec)

/-- ITS FALSE NEIGHBOUR: 'it returns false'. Refute it at one input. -/
def robotRunsWrong : ChangeSpec := { name := "robotRuns", fn := fun _ => fun
  | [d1, d2, d3] => { results := [.lit (.bool false)], args := [d1, d2, d3] }
  | _ => none }
def RobotRunsWrongFalsely : Prop := robotRunsRow.holds Tryz.pinned (OpenSpec.ofChange robotRunsWrong)

/- THE SECOND FORM. 'bulk': how many values and letters a reading holds, each counted each time it is reached (what is shared counts as often as it is met; a slice's spare places count too). A statement '..UptoSaid' is the law's where the arguments, and the package variables that the reading takes, are together of bulk at most 1048576: NARROWER than '..Said'. Prove '..Said' where nothing that the law and all that it calls make is longer than what came in: it says more and counts as full. Else prove '..UptoSaid'. A law counts once. -/
mutual
def uptoBulk {H : Type} : DataW H → Nat
  | .lit (.string bytes) => bytes.length + 1
  | .lit _ => 1
  | .nil => 1
  | .ptr d => uptoBulk d + 1
  | .slice elems spare => uptoBulkAll elems + uptoBulkAll spare + 1
  | .agg parts => uptoBulkAll parts + 1
  | .iface _ d => uptoBulk d + 1
  | .map entries => uptoBulkEntries entries + 1
  | .held _ => 1
def uptoBulkAll {H : Type} : List (DataW H) → Nat
  | [] => 0
  | d :: r => uptoBulk d + uptoBulkAll r
def uptoBulkEntries {H : Type} : List (Lit × DataW H) → Nat
  | [] => 0
  | x :: r => uptoBulkEntry x + uptoBulkEntries r
def uptoBulkEntry {H : Type} : Lit × DataW H → Nat
  | (.string bytes, d) => bytes.length + uptoBulk d + 1
  | (_, d) => uptoBulk d + 1
 end
def uptoSmall : (H : Type) → List (DataW H) → Bool := fun _ ds => decide (uptoBulkAll ds ≤ 1048576)
def OpenSpec.upto (s : _root_.Go.ChangeSpec) : _root_.Go.OpenSpec := { _root_.Go.OpenSpec.ofChange s with cond := some uptoSmall }

/-- 'skeplaw18.RobotDelays', WHERE WHAT IT READS IS OF BULK AT MOST 1048576: true; the input reads as it did. -/
def robotDelaysUptoRow : OpenClaim := { program := "ytcjpnlplibaffaagreatdoor", sum := "9a51a3a6954c2a4a69376d8890bc1f268fb23cdfa66510963c0c4541b4710eec", func := "skep/skeplaw18.RobotDelays", spec := "robotDelays", inPlace := ["sync/atomic.LoadUint32", "(*internal/sync.Mutex).Lock", "internal/race.Disable", "sync/atomic.CompareAndSwapInt32", "internal/race.Enable", "internal/race.Acquire", "(*internal/sync.Mutex).lockSlow", "internal/sync.runtime_canSpin", "internal/sync.runtime_doSpin", "internal/sync.throw", "internal/sync.runtime_nanotime", "internal/sync.runtime_SemacquireMutex", "sync/atomic.AddInt32", "(*internal/sync.Mutex).Unlock", "internal/race.ReleaseMerge", "(*internal/sync.Mutex).unlockSlow", "internal/sync.fatal", "internal/sync.runtime_Semrelease", "sync/atomic.StoreUint32"], unfollowed := true, recurses := true, named := ["skep/grid.steps"], apart := false, laid := [("skep/grid.steps", laid_skep_grid_steps)], narrowed := true }
def RobotDelaysUptoSaid : Prop := robotDelaysUptoRow.holds Tryz.pinned (OpenSpec.upto robotDelaysSpec)

/-- 'skeplaw18.RobotThere', WHERE WHAT IT READS IS OF BULK AT MOST 1048576: true; the input reads as it did. -/
def robotThereUptoRow : OpenClaim := { program := "ytcjpnlplibaffaagreatdoor", sum := "9a51a3a6954c2a4a69376d8890bc1f268fb23cdfa66510963c0c4541b4710eec", func := "skep/skeplaw18.RobotThere", spec := "robotThere", inPlace := ["sync/atomic.LoadUint32", "(*internal/sync.Mutex).Lock", "internal/race.Disable", "sync/atomic.CompareAndSwapInt32", "internal/race.Enable", "internal/race.Acquire", "(*internal/sync.Mutex).lockSlow", "internal/sync.runtime_canSpin", "internal/sync.runtime_doSpin", "internal/sync.throw", "internal/sync.runtime_nanotime", "internal/sync.runtime_SemacquireMutex", "sync/atomic.AddInt32", "(*internal/sync.Mutex).Unlock", "internal/race.ReleaseMerge", "(*internal/sync.Mutex).unlockSlow", "internal/sync.fatal", "internal/sync.runtime_Semrelease", "sync/atomic.StoreUint32"], unfollowed := true, recurses := true, named := ["skep/grid.steps"], apart := false, laid := [("skep/grid.steps", laid_skep_grid_steps)], narrowed := true }
def RobotThereUptoSaid : Prop := robotThereUptoRow.holds Tryz.pinned (OpenSpec.upto robotThereSpec)

/-- 'skeplaw18.RobotStops', WHERE WHAT IT READS IS OF BULK AT MOST 1048576: true; the input reads as it did. -/
def robotStopsUptoRow : OpenClaim := { program := "ytcjpnlplibaffaagreatdoor", sum := "9a51a3a6954c2a4a69376d8890bc1f268fb23cdfa66510963c0c4541b4710eec", func := "skep/skeplaw18.RobotStops", spec := "robotStops", inPlace := ["sync/atomic.LoadUint32", "(*internal/sync.Mutex).Lock", "internal/race.Disable", "sync/atomic.CompareAndSwapInt32", "internal/race.Enable", "internal/race.Acquire", "(*internal/sync.Mutex).lockSlow", "internal/sync.runtime_canSpin", "internal/sync.runtime_doSpin", "internal/sync.throw", "internal/sync.runtime_nanotime", "internal/sync.runtime_SemacquireMutex", "sync/atomic.AddInt32", "(*internal/sync.Mutex).Unlock", "internal/race.ReleaseMerge", "(*internal/sync.Mutex).unlockSlow", "internal/sync.fatal", "internal/sync.runtime_Semrelease", "sync/atomic.StoreUint32"], unfollowed := true, recurses := true, named := ["skep/grid.steps"], apart := false, laid := [("skep/grid.steps", laid_skep_grid_steps)], narrowed := true }
def RobotStopsUptoSaid : Prop := robotStopsUptoRow.holds Tryz.pinned (OpenSpec.upto robotStopsSpec)

/-- 'skeplaw18.RobotPlays', WHERE WHAT IT READS IS OF BULK AT MOST 1048576: true; the input reads as it did. -/
def robotPlaysUptoRow : OpenClaim := { program := "ytcjpnlplibaffaagreatdoor", sum := "9a51a3a6954c2a4a69376d8890bc1f268fb23cdfa66510963c0c4541b4710eec", func := "skep/skeplaw18.RobotPlays", spec := "robotPlays", inPlace := ["sync/atomic.LoadUint32", "(*internal/sync.Mutex).Lock", "internal/race.Disable", "sync/atomic.CompareAndSwapInt32", "internal/race.Enable", "internal/race.Acquire", "(*internal/sync.Mutex).lockSlow", "internal/sync.runtime_canSpin", "internal/sync.runtime_doSpin", "internal/sync.throw", "internal/sync.runtime_nanotime", "internal/sync.runtime_SemacquireMutex", "sync/atomic.AddInt32", "(*internal/sync.Mutex).Unlock", "internal/race.ReleaseMerge", "(*internal/sync.Mutex).unlockSlow", "internal/sync.fatal", "internal/sync.runtime_Semrelease", "sync/atomic.StoreUint32"], unfollowed := true, recurses := true, named := ["skep/grid.steps"], apart := false, laid := [("skep/grid.steps", laid_skep_grid_steps)], narrowed := true }
def RobotPlaysUptoSaid : Prop := robotPlaysUptoRow.holds Tryz.pinned (OpenSpec.upto robotPlaysSpec)

/-- 'skeplaw18.RobotRuns', WHERE WHAT IT READS IS OF BULK AT MOST 1048576: true; the input reads as it did. -/
def robotRunsUptoRow : OpenClaim := { program := "ytcjpnlplibaffaagreatdoor", sum := "9a51a3a6954c2a4a69376d8890bc1f268fb23cdfa66510963c0c4541b4710eec", func := "skep/skeplaw18.RobotRuns", spec := "robotRuns", inPlace := ["sync/atomic.LoadUint32", "(*internal/sync.Mutex).Lock", "internal/race.Disable", "sync/atomic.CompareAndSwapInt32", "internal/race.Enable", "internal/race.Acquire", "(*internal/sync.Mutex).lockSlow", "internal/sync.runtime_canSpin", "internal/sync.runtime_doSpin", "internal/sync.throw", "internal/sync.runtime_nanotime", "internal/sync.runtime_SemacquireMutex", "sync/atomic.AddInt32", "(*internal/sync.Mutex).Unlock", "internal/race.ReleaseMerge", "(*internal/sync.Mutex).unlockSlow", "internal/sync.fatal", "internal/sync.runtime_Semrelease", "sync/atomic.StoreUint32"], unfollowed := true, recurses := true, named := ["skep/grid.steps"], apart := false, laid := [("skep/grid.steps", laid_skep_grid_steps)], narrowed := true }
def RobotRunsUptoSaid : Prop := robotRunsUptoRow.holds Tryz.pinned (OpenSpec.upto robotRunsSpec)

end Rows
end Go.Proofs.YtcjpnlplibaffaaGreatDoor
