/- What the laws on stacks share: the config's copy, and the stacks that are made of it. -/
import Derived.Test.YtngeeilkpnihmaaGreatDoorAwZ
set_option linter.all false
namespace Go.Proofs.YtngeeilkpnihmaaGreatDoor
open Go Go.Sk Go.RowKit
set_option maxRecDepth 100000
end Go.Proofs.YtngeeilkpnihmaaGreatDoor
