/- awake: a bin is lifted. -/
import Derived.Test.YtngeeilkpnihmaaGreatDoorStCZ
set_option linter.all false
namespace Go.Proofs.YtngeeilkpnihmaaGreatDoor
open Go Go.Sk Go.RowKit
set_option maxRecDepth 100000
end Go.Proofs.YtngeeilkpnihmaaGreatDoor
