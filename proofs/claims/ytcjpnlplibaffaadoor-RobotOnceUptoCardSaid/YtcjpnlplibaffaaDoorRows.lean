/-
  NARROWER THAN 'FOR EVERY INPUT', by the rows' own cells (each row's printed sentence says how): RobotDeaf: laid · RobotOld: laid · RobotOnce: laid.
  DERIVED. THE GIVEN ROWS OF THIS SEAT. 3 by the template 'for every input the law returns true; each argument reads behind the call as it read before'; 0 by the template 'total and deterministic' (their statements: YtcjpnlplibaffaaDoorTotals.lean).
  GIVEN WITH THE SEED: the statements are not yours to turn. If you find one false, say at which input.
  Laid BY PROGRAM, IN A SANDBOX (cutbox-rows.mjs): the forced cells as the released guide's own fill.sh prints them over the translation 0b2ae2243b17c0d9… (all of the seat's roots in one cut). By AI agents, Wed Nov 11 2026. No macro, syntax, notation, axiom, sorry.
-/
import Derived.Test.YtcjpnlplibaffaaDoorChecked
import GoSem.Claim
import GoSem.ClaimJoined
import GoSem.ClaimMapViews
import Derived.JoinedTies
import Derived.KernelRfl
namespace Go.Proofs.YtcjpnlplibaffaaDoor
/- THE CELL 'sum', in the pinned program and in every row, IS THE sha256 OF THE DUMP (.gsa) THAT YtcjpnlplibaffaaDoorProg.lean LOADS. Nothing in Lean hashes anything: it is a label: what it is worth is what the hold of that sum in a sandbox is worth. -/
noncomputable def Tryd.pinned : Pinned := { name := "ytcjpnlplibaffaadoor", sum := "0b2ae2243b17c0d957fa869c477f1539cbb9c94893e5e2c4451686d7af8db332", checked := Tryd.checked }
namespace Rows
def none {H : Type} : Left H := { results := [], args := [] }

/- WHAT THE LISTED PACKAGE-LEVEL VARIABLES READ AS WHEN THE CALL BEGINS. Each datum BY PROGRAM (the guide's laid-datum.mjs) off the statement by which the dump's own 'gosem.cut.vars' lays the variable. In a bare row this is a premise. The card (YtcjpnlplibaffaaDoorCards.lean) ties it to the program's text. -/
def laid_skep_grid_steps {H : Type} : DataW H := .agg [.agg [.lit (.int .i64 0), .lit (.int .i64 (-1))], .agg [.lit (.int .i64 1), .lit (.int .i64 0)], .agg [.lit (.int .i64 0), .lit (.int .i64 1)], .agg [.lit (.int .i64 (-1)), .lit (.int .i64 0)]]

/-- 'skeplaw18.RobotDeaf': WHATEVER THE INPUT: true; the input reads as it did. -/
def robotDeafSpec : ChangeSpec := { name := "robotDeaf", fn := fun _ => fun
  | [d] => { results := [.lit (.bool true)], args := [d] }
  | _ => none }
def robotDeafRow : OpenClaim := { program := "ytcjpnlplibaffaadoor", sum := "0b2ae2243b17c0d957fa869c477f1539cbb9c94893e5e2c4451686d7af8db332", func := "skep/skeplaw18.RobotDeaf", spec := "robotDeaf", inPlace := ["sync/atomic.LoadUint32", "(*internal/sync.Mutex).Lock", "internal/race.Disable", "sync/atomic.CompareAndSwapInt32", "internal/race.Enable", "internal/race.Acquire", "(*internal/sync.Mutex).lockSlow", "internal/sync.runtime_canSpin", "internal/sync.runtime_doSpin", "internal/sync.throw", "internal/sync.runtime_nanotime", "internal/sync.runtime_SemacquireMutex", "sync/atomic.AddInt32", "(*internal/sync.Mutex).Unlock", "internal/race.ReleaseMerge", "(*internal/sync.Mutex).unlockSlow", "internal/sync.fatal", "internal/sync.runtime_Semrelease", "sync/atomic.StoreUint32"], unfollowed := true, recurses := true, named := ["skep/grid.steps"], apart := false, laid := [("skep/grid.steps", laid_skep_grid_steps)] }
def RobotDeafSaid : Prop := robotDeafRow.holds Tryd.pinned (OpenSpec.ofChange robotDeafSpec)

/-- ITS FALSE NEIGHBOUR: 'it returns false'. Refute it at one input. -/
def robotDeafWrong : ChangeSpec := { name := "robotDeaf", fn := fun _ => fun
  | [d] => { results := [.lit (.bool false)], args := [d] }
  | _ => none }
def RobotDeafWrongFalsely : Prop := robotDeafRow.holds Tryd.pinned (OpenSpec.ofChange robotDeafWrong)

/-- 'skeplaw18.RobotOld': WHATEVER THE INPUT: true; the input reads as it did. -/
def robotOldSpec : ChangeSpec := { name := "robotOld", fn := fun _ => fun
  | [d1, d2] => { results := [.lit (.bool true)], args := [d1, d2] }
  | _ => none }
def robotOldRow : OpenClaim := { program := "ytcjpnlplibaffaadoor", sum := "0b2ae2243b17c0d957fa869c477f1539cbb9c94893e5e2c4451686d7af8db332", func := "skep/skeplaw18.RobotOld", spec := "robotOld", inPlace := ["sync/atomic.LoadUint32", "(*internal/sync.Mutex).Lock", "internal/race.Disable", "sync/atomic.CompareAndSwapInt32", "internal/race.Enable", "internal/race.Acquire", "(*internal/sync.Mutex).lockSlow", "internal/sync.runtime_canSpin", "internal/sync.runtime_doSpin", "internal/sync.throw", "internal/sync.runtime_nanotime", "internal/sync.runtime_SemacquireMutex", "sync/atomic.AddInt32", "(*internal/sync.Mutex).Unlock", "internal/race.ReleaseMerge", "(*internal/sync.Mutex).unlockSlow", "internal/sync.fatal", "internal/sync.runtime_Semrelease", "sync/atomic.StoreUint32"], unfollowed := true, recurses := true, named := ["skep/grid.steps"], apart := false, laid := [("skep/grid.steps", laid_skep_grid_steps)] }
def RobotOldSaid : Prop := robotOldRow.holds Tryd.pinned (OpenSpec.ofChange robotOldSpec)

/-- ITS FALSE NEIGHBOUR: 'it returns false'. Refute it at one input. -/
def robotOldWrong : ChangeSpec := { name := "robotOld", fn := fun _ => fun
  | [d1, d2] => { results := [.lit (.bool false)], args := [d1, d2] }
  | _ => none }
def RobotOldWrongFalsely : Prop := robotOldRow.holds Tryd.pinned (OpenSpec.ofChange robotOldWrong)

/-- 'skeplaw18.RobotOnce': WHATEVER THE INPUT: true; the input reads as it did. -/
def robotOnceSpec : ChangeSpec := { name := "robotOnce", fn := fun _ => fun
  | [d1, d2] => { results := [.lit (.bool true)], args := [d1, d2] }
  | _ => none }
def robotOnceRow : OpenClaim := { program := "ytcjpnlplibaffaadoor", sum := "0b2ae2243b17c0d957fa869c477f1539cbb9c94893e5e2c4451686d7af8db332", func := "skep/skeplaw18.RobotOnce", spec := "robotOnce", inPlace := ["sync/atomic.LoadUint32", "(*internal/sync.Mutex).Lock", "internal/race.Disable", "sync/atomic.CompareAndSwapInt32", "internal/race.Enable", "internal/race.Acquire", "(*internal/sync.Mutex).lockSlow", "internal/sync.runtime_canSpin", "internal/sync.runtime_doSpin", "internal/sync.throw", "internal/sync.runtime_nanotime", "internal/sync.runtime_SemacquireMutex", "sync/atomic.AddInt32", "(*internal/sync.Mutex).Unlock", "internal/race.ReleaseMerge", "(*internal/sync.Mutex).unlockSlow", "internal/sync.fatal", "internal/sync.runtime_Semrelease", "sync/atomic.StoreUint32"], unfollowed := true, recurses := true, named := ["skep/grid.steps"], apart := false, laid := [("skep/grid.steps", laid_skep_grid_steps)] }
def RobotOnceSaid : Prop := robotOnceRow.holds Tryd.pinned (OpenSpec.ofChange robotOnceSpec)

/-- ITS FALSE NEIGHBOUR: 'it returns false'. Refute it at one input. -/
def robotOnceWrong : ChangeSpec := { name := "robotOnce", fn := fun _ => fun
  | [d1, d2] => { results := [.lit (.bool false)], args := [d1, d2] }
  | _ => none }
def RobotOnceWrongFalsely : Prop := robotOnceRow.holds Tryd.pinned (OpenSpec.ofChange robotOnceWrong)

/- THE SECOND FORM. 'bulk': how many values and letters a reading holds, each counted each time it is reached (what is shared counts as often as it is met; a slice's spare places count too). A statement '..UptoSaid' is the law's where the arguments, and the package variables that the reading takes, are together of bulk at most 1048576: NARROWER than '..Said'. Prove '..Said' where nothing that the law and all that it calls make is longer than what came in: it says more and counts as full. Else prove '..UptoSaid'. A law counts once. -/
mutual
def uptoBulk {H : Type} : DataW H → Nat
  | .lit (.string bytes) => bytes.length + 1
  | .lit _ => 1
  | .nil => 1
  | .ptr d => uptoBulk d + 1
  | .slice elems spare => uptoBulkAll elems + uptoBulkAll spare + 1
  | .agg parts => uptoBulkAll parts + 1
  | .iface _ d => uptoBulk d + 1
  | .map entries => uptoBulkEntries entries + 1
  | .held _ => 1
def uptoBulkAll {H : Type} : List (DataW H) → Nat
  | [] => 0
  | d :: r => uptoBulk d + uptoBulkAll r
def uptoBulkEntries {H : Type} : List (Lit × DataW H) → Nat
  | [] => 0
  | x :: r => uptoBulkEntry x + uptoBulkEntries r
def uptoBulkEntry {H : Type} : Lit × DataW H → Nat
  | (.string bytes, d) => bytes.length + uptoBulk d + 1
  | (_, d) => uptoBulk d + 1
 end
def uptoSmall : (H : Type) → List (DataW H) → Bool := fun _ ds => decide (uptoBulkAll ds ≤ 1048576)
def OpenSpec.upto (s : _root_.Go.ChangeSpec) : _root_.Go.OpenSpec := { _root_.Go.OpenSpec.ofChange s with cond := some uptoSmall }

/-- 'skeplaw18.RobotDeaf', WHERE WHAT IT READS IS OF BULK AT MOST 1048576: true; the input reads as it did. -/
def robotDeafUptoRow : OpenClaim := { program := "ytcjpnlplibaffaadoor", sum := "0b2ae2243b17c0d957fa869c477f1539cbb9c94893e5e2c4451686d7af8db332", func := "skep/skeplaw18.RobotDeaf", spec := "robotDeaf", inPlace := ["sync/atomic.LoadUint32", "(*internal/sync.Mutex).Lock", "internal/race.Disable", "sync/atomic.CompareAndSwapInt32", "internal/race.Enable", "internal/race.Acquire", "(*internal/sync.Mutex).lockSlow", "internal/sync.runtime_canSpin", "internal/sync.runtime_doSpin", "internal/sync.throw", "internal/sync.runtime_nanotime", "internal/sync.runtime_SemacquireMutex", "sync/atomic.AddInt32", "(*internal/sync.Mutex).Unlock", "internal/race.ReleaseMerge", "(*internal/sync.Mutex).unlockSlow", "internal/sync.fatal", "internal/sync.runtime_Semrelease", "sync/atomic.StoreUint32"], unfollowed := true, recurses := true, named := ["skep/grid.steps"], apart := false, laid := [("skep/grid.steps", laid_skep_grid_steps)], narrowed := true }
def RobotDeafUptoSaid : Prop := robotDeafUptoRow.holds Tryd.pinned (OpenSpec.upto robotDeafSpec)

/-- 'skeplaw18.RobotOld', WHERE WHAT IT READS IS OF BULK AT MOST 1048576: true; the input reads as it did. -/
def robotOldUptoRow : OpenClaim := { program := "ytcjpnlplibaffaadoor", sum := "0b2ae2243b17c0d957fa869c477f1539cbb9c94893e5e2c4451686d7af8db332", func := "skep/skeplaw18.RobotOld", spec := "robotOld", inPlace := ["sync/atomic.LoadUint32", "(*internal/sync.Mutex).Lock", "internal/race.Disable", "sync/atomic.CompareAndSwapInt32", "internal/race.Enable", "internal/race.Acquire", "(*internal/sync.Mutex).lockSlow", "internal/sync.runtime_canSpin", "internal/sync.runtime_doSpin", "internal/sync.throw", "internal/sync.runtime_nanotime", "internal/sync.runtime_SemacquireMutex", "sync/atomic.AddInt32", "(*internal/sync.Mutex).Unlock", "internal/race.ReleaseMerge", "(*internal/sync.Mutex).unlockSlow", "internal/sync.fatal", "internal/sync.runtime_Semrelease", "sync/atomic.StoreUint32"], unfollowed := true, recurses := true, named := ["skep/grid.steps"], apart := false, laid := [("skep/grid.steps", laid_skep_grid_steps)], narrowed := true }
def RobotOldUptoSaid : Prop := robotOldUptoRow.holds Tryd.pinned (OpenSpec.upto robotOldSpec)

/-- 'skeplaw18.RobotOnce', WHERE WHAT IT READS IS OF BULK AT MOST 1048576: true; the input reads as it did. -/
def robotOnceUptoRow : OpenClaim := { program := "ytcjpnlplibaffaadoor", sum := "0b2ae2243b17c0d957fa869c477f1539cbb9c94893e5e2c4451686d7af8db332", func := "skep/skeplaw18.RobotOnce", spec := "robotOnce", inPlace := ["sync/atomic.LoadUint32", "(*internal/sync.Mutex).Lock", "internal/race.Disable", "sync/atomic.CompareAndSwapInt32", "internal/race.Enable", "internal/race.Acquire", "(*internal/sync.Mutex).lockSlow", "internal/sync.runtime_canSpin", "internal/sync.runtime_doSpin", "internal/sync.throw", "internal/sync.runtime_nanotime", "internal/sync.runtime_SemacquireMutex", "sync/atomic.AddInt32", "(*internal/sync.Mutex).Unlock", "internal/race.ReleaseMerge", "(*internal/sync.Mutex).unlockSlow", "internal/sync.fatal", "internal/sync.runtime_Semrelease", "sync/atomic.StoreUint32"], unfollowed := true, recurses := true, named := ["skep/grid.steps"], apart := false, laid := [("skep/grid.steps", laid_skep_grid_steps)], narrowed := true }
def RobotOnceUptoSaid : Prop := robotOnceUptoRow.holds Tryd.pinned (OpenSpec.upto robotOnceSpec)

end Rows
end Go.Proofs.YtcjpnlplibaffaaDoor
