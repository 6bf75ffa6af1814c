/- Texts of mine that belong together: St6, St7, St8. -/
import Derived.Test.YtngeeilkpnihmaaGreatDoorStA
import Derived.Test.YtngeeilkpnihmaaGreatDoorSkB
import Derived.WalkMore
set_option linter.all false
/- The law's own gatherer: told$1. -/
namespace Go.Proofs.YtngeeilkpnihmaaGreatDoor
open Go Go.Sk Go.RowKit
set_option maxRecDepth 100000

/-- What is gathered. -/
def gath (bl bm : Nat) (most : Int) (ad : Option Addr) (cap : Nat) (acc : List StackV) : List Res := [rMany (acc.map binRes), rBlk bl [.slice ad acc.length cap] 24, rBlk bm [.int .i64 most] 3, rOw 85 elStack (.slice ad acc.length cap) acc]

end Go.Proofs.YtngeeilkpnihmaaGreatDoor

/- What goes through all stacks: All, All$1, told. -/
namespace Go.Proofs.YtngeeilkpnihmaaGreatDoor
open Go Go.Sk Go.RowKit
set_option maxRecDepth 100000

end Go.Proofs.YtngeeilkpnihmaaGreatDoor

/- The stacks: Find. -/
namespace Go.Proofs.YtngeeilkpnihmaaGreatDoor
open Go Go.Sk Go.RowKit
set_option maxRecDepth 100000

def FindPost (c : ConfP) (s : StV) (bin : Int) (w : World) (e : Ending) (w' : World) : Prop :=
  ((∃ (n i : Nat) (row : Sv Int), s.rows[n]? = some row ∧ row.l[i]? = some bin ∧ (∀ k r, k < n → s.rows[k]? = some r → bin ∉ r.l) ∧ (∀ k, k < i → row.l[k]? ≠ some bin) ∧ e = .returned (.tuple #[.agg (cellAt c.w n).cells.toArray, .int .i64 ((row.l.length : Int) - 1 - i), .bool true])) ∨
   ((∀ row ∈ s.rows, bin ∉ row.l) ∧ e = .returned (.tuple #[.agg (Cell.mk 0 0).cells.toArray, .int .i64 0, .bool false]))) ∧ Mod none' w w'

end Go.Proofs.YtngeeilkpnihmaaGreatDoor
