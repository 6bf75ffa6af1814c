/-
  No cell of these rows narrows 'for every input' (looked for: loops, veiled, ifaces, maps, wideKeys, modest, calm, conditions, laid).
  DERIVED. THE GIVEN ROWS OF THIS SEAT. 5 by the template 'for every input the law returns true; each argument reads behind the call as it read before'; 0 by the template 'total and deterministic' (their statements: YthbhbklbhfadnaaTotals.lean).
  GIVEN WITH THE SEED: the statements are not yours to turn. If you find one false, say at which input.
  Laid BY PROGRAM, IN A SANDBOX (cutbox-rows.mjs): the forced cells as the released guide's own fill.sh prints them over the translation b5d1dde0bb5e127f… (all of the seat's roots in one cut). By AI agents, Wed Nov 11 2026. No macro, syntax, notation, axiom, sorry.
-/
import Derived.Test.YthbhbklbhfadnaaChecked
import GoSem.Claim
import GoSem.ClaimJoined
import GoSem.ClaimMapViews
import Derived.JoinedTies
import Derived.KernelRfl
namespace Go.Proofs.Ythbhbklbhfadnaa
/- THE CELL 'sum', in the pinned program and in every row, IS THE sha256 OF THE DUMP (.gsa) THAT YthbhbklbhfadnaaProg.lean LOADS. Nothing in Lean hashes anything: it is a label: what it is worth is what the hold of that sum in a sandbox is worth. -/
noncomputable def Try.pinned : Pinned := { name := "ythbhbklbhfadnaa", sum := "b5d1dde0bb5e127f08c470ab2ffa17b0098de51adbd70ecee7c418a5643daf24", checked := Try.checked }
namespace Rows
def none {H : Type} : Left H := { results := [], args := [] }

/-- 'skeplaw20.RadioFull': WHATEVER THE INPUT: true; the input reads as it did. -/
def radioFullSpec : ChangeSpec := { name := "radioFull", fn := fun _ => fun
  | [d1, d2] => { results := [.lit (.bool true)], args := [d1, d2] }
  | _ => none }
def radioFullRow : OpenClaim := { program := "ythbhbklbhfadnaa", sum := "b5d1dde0bb5e127f08c470ab2ffa17b0098de51adbd70ecee7c418a5643daf24", func := "skep/skeplaw20.RadioFull", spec := "radioFull", apart := false }
def RadioFullSaid : Prop := radioFullRow.holds Try.pinned (OpenSpec.ofChange radioFullSpec)

/-- ITS FALSE NEIGHBOUR: 'it returns false'. Refute it at one input. -/
def radioFullWrong : ChangeSpec := { name := "radioFull", fn := fun _ => fun
  | [d1, d2] => { results := [.lit (.bool false)], args := [d1, d2] }
  | _ => none }
def RadioFullWrongFalsely : Prop := radioFullRow.holds Try.pinned (OpenSpec.ofChange radioFullWrong)

/-- 'skeplaw20.RadioLoses': WHATEVER THE INPUT: true; the input reads as it did. -/
def radioLosesSpec : ChangeSpec := { name := "radioLoses", fn := fun _ => fun
  | [d1, d2] => { results := [.lit (.bool true)], args := [d1, d2] }
  | _ => none }
def radioLosesRow : OpenClaim := { program := "ythbhbklbhfadnaa", sum := "b5d1dde0bb5e127f08c470ab2ffa17b0098de51adbd70ecee7c418a5643daf24", func := "skep/skeplaw20.RadioLoses", spec := "radioLoses", apart := false }
def RadioLosesSaid : Prop := radioLosesRow.holds Try.pinned (OpenSpec.ofChange radioLosesSpec)

/-- ITS FALSE NEIGHBOUR: 'it returns false'. Refute it at one input. -/
def radioLosesWrong : ChangeSpec := { name := "radioLoses", fn := fun _ => fun
  | [d1, d2] => { results := [.lit (.bool false)], args := [d1, d2] }
  | _ => none }
def RadioLosesWrongFalsely : Prop := radioLosesRow.holds Try.pinned (OpenSpec.ofChange radioLosesWrong)

/-- 'skeplaw20.RadioTwice': WHATEVER THE INPUT: true; the input reads as it did. -/
def radioTwiceSpec : ChangeSpec := { name := "radioTwice", fn := fun _ => fun
  | [d1, d2, d3] => { results := [.lit (.bool true)], args := [d1, d2, d3] }
  | _ => none }
def radioTwiceRow : OpenClaim := { program := "ythbhbklbhfadnaa", sum := "b5d1dde0bb5e127f08c470ab2ffa17b0098de51adbd70ecee7c418a5643daf24", func := "skep/skeplaw20.RadioTwice", spec := "radioTwice", apart := false }
def RadioTwiceSaid : Prop := radioTwiceRow.holds Try.pinned (OpenSpec.ofChange radioTwiceSpec)

/-- ITS FALSE NEIGHBOUR: 'it returns false'. Refute it at one input. -/
def radioTwiceWrong : ChangeSpec := { name := "radioTwice", fn := fun _ => fun
  | [d1, d2, d3] => { results := [.lit (.bool false)], args := [d1, d2, d3] }
  | _ => none }
def RadioTwiceWrongFalsely : Prop := radioTwiceRow.holds Try.pinned (OpenSpec.ofChange radioTwiceWrong)

/-- 'skeplaw20.RadioPlays': WHATEVER THE INPUT: true; the input reads as it did. -/
def radioPlaysSpec : ChangeSpec := { name := "radioPlays", fn := fun _ => fun
  | [d] => { results := [.lit (.bool true)], args := [d] }
  | _ => none }
def radioPlaysRow : OpenClaim := { program := "ythbhbklbhfadnaa", sum := "b5d1dde0bb5e127f08c470ab2ffa17b0098de51adbd70ecee7c418a5643daf24", func := "skep/skeplaw20.RadioPlays", spec := "radioPlays", unfollowed := true, recurses := true, apart := false }
def RadioPlaysSaid : Prop := radioPlaysRow.holds Try.pinned (OpenSpec.ofChange radioPlaysSpec)

/-- ITS FALSE NEIGHBOUR: 'it returns false'. Refute it at one input. -/
def radioPlaysWrong : ChangeSpec := { name := "radioPlays", fn := fun _ => fun
  | [d] => { results := [.lit (.bool false)], args := [d] }
  | _ => none }
def RadioPlaysWrongFalsely : Prop := radioPlaysRow.holds Try.pinned (OpenSpec.ofChange radioPlaysWrong)

/-- 'skeplaw20.RadioOrder': WHATEVER THE INPUT: true; the input reads as it did. -/
def radioOrderSpec : ChangeSpec := { name := "radioOrder", fn := fun _ => fun
  | [d1, d2, d3, d4] => { results := [.lit (.bool true)], args := [d1, d2, d3, d4] }
  | _ => none }
def radioOrderRow : OpenClaim := { program := "ythbhbklbhfadnaa", sum := "b5d1dde0bb5e127f08c470ab2ffa17b0098de51adbd70ecee7c418a5643daf24", func := "skep/skeplaw20.RadioOrder", spec := "radioOrder", unfollowed := true, recurses := true, apart := false }
def RadioOrderSaid : Prop := radioOrderRow.holds Try.pinned (OpenSpec.ofChange radioOrderSpec)

/-- ITS FALSE NEIGHBOUR: 'it returns false'. Refute it at one input. -/
def radioOrderWrong : ChangeSpec := { name := "radioOrder", fn := fun _ => fun
  | [d1, d2, d3, d4] => { results := [.lit (.bool false)], args := [d1, d2, d3, d4] }
  | _ => none }
def RadioOrderWrongFalsely : Prop := radioOrderRow.holds Try.pinned (OpenSpec.ofChange radioOrderWrong)

/- THE SECOND FORM. 'bulk': how many values and letters a reading holds, each counted each time it is reached (what is shared counts as often as it is met; a slice's spare places count too). A statement '..UptoSaid' is the law's where the arguments, and the package variables that the reading takes, are together of bulk at most 1048576: NARROWER than '..Said'. Prove '..Said' where nothing that the law and all that it calls make is longer than what came in: it says more and counts as full. Else prove '..UptoSaid'. A law counts once. -/
mutual
def uptoBulk {H : Type} : DataW H → Nat
  | .lit (.string bytes) => bytes.length + 1
  | .lit _ => 1
  | .nil => 1
  | .ptr d => uptoBulk d + 1
  | .slice elems spare => uptoBulkAll elems + uptoBulkAll spare + 1
  | .agg parts => uptoBulkAll parts + 1
  | .iface _ d => uptoBulk d + 1
  | .map entries => uptoBulkEntries entries + 1
  | .held _ => 1
def uptoBulkAll {H : Type} : List (DataW H) → Nat
  | [] => 0
  | d :: r => uptoBulk d + uptoBulkAll r
def uptoBulkEntries {H : Type} : List (Lit × DataW H) → Nat
  | [] => 0
  | x :: r => uptoBulkEntry x + uptoBulkEntries r
def uptoBulkEntry {H : Type} : Lit × DataW H → Nat
  | (.string bytes, d) => bytes.length + uptoBulk d + 1
  | (_, d) => uptoBulk d + 1
 end
def uptoSmall : (H : Type) → List (DataW H) → Bool := fun _ ds => decide (uptoBulkAll ds ≤ 1048576)
def OpenSpec.upto (s : _root_.Go.ChangeSpec) : _root_.Go.OpenSpec := { _root_.Go.OpenSpec.ofChange s with cond := some uptoSmall }

/-- 'skeplaw20.RadioFull', WHERE WHAT IT READS IS OF BULK AT MOST 1048576: true; the input reads as it did. -/
def radioFullUptoRow : OpenClaim := { program := "ythbhbklbhfadnaa", sum := "b5d1dde0bb5e127f08c470ab2ffa17b0098de51adbd70ecee7c418a5643daf24", func := "skep/skeplaw20.RadioFull", spec := "radioFull", apart := false, narrowed := true }
def RadioFullUptoSaid : Prop := radioFullUptoRow.holds Try.pinned (OpenSpec.upto radioFullSpec)

/-- 'skeplaw20.RadioLoses', WHERE WHAT IT READS IS OF BULK AT MOST 1048576: true; the input reads as it did. -/
def radioLosesUptoRow : OpenClaim := { program := "ythbhbklbhfadnaa", sum := "b5d1dde0bb5e127f08c470ab2ffa17b0098de51adbd70ecee7c418a5643daf24", func := "skep/skeplaw20.RadioLoses", spec := "radioLoses", apart := false, narrowed := true }
def RadioLosesUptoSaid : Prop := radioLosesUptoRow.holds Try.pinned (OpenSpec.upto radioLosesSpec)

/-- 'skeplaw20.RadioTwice', WHERE WHAT IT READS IS OF BULK AT MOST 1048576: true; the input reads as it did. -/
def radioTwiceUptoRow : OpenClaim := { program := "ythbhbklbhfadnaa", sum := "b5d1dde0bb5e127f08c470ab2ffa17b0098de51adbd70ecee7c418a5643daf24", func := "skep/skeplaw20.RadioTwice", spec := "radioTwice", apart := false, narrowed := true }
def RadioTwiceUptoSaid : Prop := radioTwiceUptoRow.holds Try.pinned (OpenSpec.upto radioTwiceSpec)

/-- 'skeplaw20.RadioPlays', WHERE WHAT IT READS IS OF BULK AT MOST 1048576: true; the input reads as it did. -/
def radioPlaysUptoRow : OpenClaim := { program := "ythbhbklbhfadnaa", sum := "b5d1dde0bb5e127f08c470ab2ffa17b0098de51adbd70ecee7c418a5643daf24", func := "skep/skeplaw20.RadioPlays", spec := "radioPlays", unfollowed := true, recurses := true, apart := false, narrowed := true }
def RadioPlaysUptoSaid : Prop := radioPlaysUptoRow.holds Try.pinned (OpenSpec.upto radioPlaysSpec)

/-- 'skeplaw20.RadioOrder', WHERE WHAT IT READS IS OF BULK AT MOST 1048576: true; the input reads as it did. -/
def radioOrderUptoRow : OpenClaim := { program := "ythbhbklbhfadnaa", sum := "b5d1dde0bb5e127f08c470ab2ffa17b0098de51adbd70ecee7c418a5643daf24", func := "skep/skeplaw20.RadioOrder", spec := "radioOrder", unfollowed := true, recurses := true, apart := false, narrowed := true }
def RadioOrderUptoSaid : Prop := radioOrderUptoRow.holds Try.pinned (OpenSpec.upto radioOrderSpec)

end Rows
end Go.Proofs.Ythbhbklbhfadnaa
