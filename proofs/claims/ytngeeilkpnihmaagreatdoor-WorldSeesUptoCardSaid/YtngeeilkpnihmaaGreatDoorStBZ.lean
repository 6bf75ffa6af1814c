/- Texts of mine that belong together: St6, St7, St8. -/
import Derived.Test.YtngeeilkpnihmaaGreatDoorStAZ
import Derived.Test.YtngeeilkpnihmaaGreatDoorSkBZ
import Derived.WalkMore
set_option linter.all false
namespace Go.Proofs.YtngeeilkpnihmaaGreatDoor
open Go Go.Sk Go.RowKit
set_option maxRecDepth 100000
end Go.Proofs.YtngeeilkpnihmaaGreatDoor
namespace Go.Proofs.YtngeeilkpnihmaaGreatDoor
open Go Go.Sk Go.RowKit
set_option maxRecDepth 100000
end Go.Proofs.YtngeeilkpnihmaaGreatDoor
