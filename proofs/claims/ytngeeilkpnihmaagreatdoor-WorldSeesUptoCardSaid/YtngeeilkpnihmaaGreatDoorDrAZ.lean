/- Texts of mine that belong together: Au, Dr1, Dr2, Dr3. -/
import Derived.Test.YtngeeilkpnihmaaGreatDoorRefAZ
import Derived.Test.YtngeeilkpnihmaaGreatDoorEngZ
import Derived.Test.YtngeeilkpnihmaaGreatDoorRr1Z
import Derived.Test.YtngeeilkpnihmaaGreatDoorRbCZ
set_option linter.all false
namespace Go.Proofs.YtngeeilkpnihmaaGreatDoor
open Go Go.Sk Go.RowKit
instance:ZeroT Tryz.prog 2 (.int .i64 0):=⟨by kernel_rfl⟩
instance:ZeroT Tryz.prog 3 (.int .i64 0):=⟨by kernel_rfl⟩
instance:ZeroT Tryz.prog 4 (.bool false):=⟨by kernel_rfl⟩
instance:ZeroT Tryz.prog 5 (.int .u8 0):=⟨by kernel_rfl⟩
instance:ZeroT Tryz.prog 12 (.int .u64 0):=⟨by kernel_rfl⟩
instance:ZeroT Tryz.prog 15 (.pointer none):=⟨by kernel_rfl⟩
instance:ZeroT Tryz.prog 16 (.pointer none):=⟨by kernel_rfl⟩
instance:ZeroT Tryz.prog 17 (.pointer none):=⟨by kernel_rfl⟩
instance:ZeroT Tryz.prog 21 (.int .i32 0):=⟨by kernel_rfl⟩
instance:ZeroT Tryz.prog 22 (.slice none 0 0):=⟨by kernel_rfl⟩
instance:ZeroT Tryz.prog 23 (.slice none 0 0):=⟨by kernel_rfl⟩
instance:ZeroT Tryz.prog 24 (.slice none 0 0):=⟨by kernel_rfl⟩
instance:ZeroT Tryz.prog 26 (.agg [.int .i64 0,.int .i64 0,.int .i64 0,.slice none 0 0,.slice none 0 0,.slice none 0 0,.slice none 0 0,.int .i64 0,.int .i64 0,.int .i64 0,.int .i64 0,.int .i64 0,.int .i64 0,.int .i64 0,.int .i64 0,.bool false].toArray):=⟨by kernel_rfl⟩
instance:FieldT Tryz.prog 26 0 0:=⟨fun _ _ _=>by kernel_rfl⟩
instance:FieldT Tryz.prog 26 1 1:=⟨fun _ _ _=>by kernel_rfl⟩
instance:FieldT Tryz.prog 26 2 2:=⟨fun _ _ _=>by kernel_rfl⟩
instance:FieldT Tryz.prog 26 3 3:=⟨fun _ _ _=>by kernel_rfl⟩
instance:FieldT Tryz.prog 26 4 4:=⟨fun _ _ _=>by kernel_rfl⟩
instance:FieldT Tryz.prog 26 5 5:=⟨fun _ _ _=>by kernel_rfl⟩
instance:FieldT Tryz.prog 26 6 6:=⟨fun _ _ _=>by kernel_rfl⟩
instance:FieldT Tryz.prog 26 7 7:=⟨fun _ _ _=>by kernel_rfl⟩
instance:FieldT Tryz.prog 26 8 8:=⟨fun _ _ _=>by kernel_rfl⟩
instance:FieldT Tryz.prog 26 9 9:=⟨fun _ _ _=>by kernel_rfl⟩
instance:FieldT Tryz.prog 26 10 10:=⟨fun _ _ _=>by kernel_rfl⟩
instance:FieldT Tryz.prog 26 11 11:=⟨fun _ _ _=>by kernel_rfl⟩
instance:FieldT Tryz.prog 26 12 12:=⟨fun _ _ _=>by kernel_rfl⟩
instance:FieldT Tryz.prog 26 13 13:=⟨fun _ _ _=>by kernel_rfl⟩
instance:FieldT Tryz.prog 26 14 14:=⟨fun _ _ _=>by kernel_rfl⟩
instance:FieldT Tryz.prog 26 15 15:=⟨fun _ _ _=>by kernel_rfl⟩
instance:PlacesT Tryz.prog 26 [.int .i64 0,.int .i64 0,.int .i64 0,.slice none 0 0,.slice none 0 0,.slice none 0 0,.slice none 0 0,.int .i64 0,.int .i64 0,.int .i64 0,.int .i64 0,.int .i64 0,.int .i64 0,.int .i64 0,.int .i64 0,.bool false] [(0,1),(1,1),(2,1),(3,1),(4,1),(5,1),(6,1),(7,1),(8,1),(9,1),(10,1),(11,1),(12,1),(13,1),(14,1),(15,1)]:=⟨fun _ _=>by kernel_rfl⟩
instance:ZeroT Tryz.prog 27 (.slice none 0 0):=⟨by kernel_rfl⟩
instance:ZeroT Tryz.prog 30 (.pointer none):=⟨by kernel_rfl⟩
instance:ZeroT Tryz.prog 34 (.agg [.int .i64 0,.int .i64 0].toArray):=⟨by kernel_rfl⟩
instance:EqT Tryz.prog 34 [some .i64,some .i64]:=⟨by kernel_rfl⟩
instance:FieldT Tryz.prog 34 0 0:=⟨fun _ _ _=>by kernel_rfl⟩
instance:FieldT Tryz.prog 34 1 1:=⟨fun _ _ _=>by kernel_rfl⟩
instance:PlacesT Tryz.prog 34 [.int .i64 0,.int .i64 0] [(0,1),(1,1)]:=⟨fun _ _=>by kernel_rfl⟩
instance:ZeroT Tryz.prog 36 (.agg [.int .i64 0,.int .i64 0,.bool false].toArray):=⟨by kernel_rfl⟩
instance:EqT Tryz.prog 36 [some .i64,some .i64,none]:=⟨by kernel_rfl⟩
instance:FieldT Tryz.prog 36 0 0:=⟨fun _ _ _=>by kernel_rfl⟩
instance:FieldT Tryz.prog 36 1 2:=⟨fun _ _ _=>by kernel_rfl⟩
instance:PlacesT Tryz.prog 36 [.int .i64 0,.int .i64 0,.bool false] [(0,2),(2,1)]:=⟨fun _ _=>by kernel_rfl⟩
instance:ZeroT Tryz.prog 38 (.agg [.int .i64 0,.int .i64 0,.int .i64 0,.int .i64 0,.int .i64 0,.bool false,.int .i64 0,.int .i64 0,.bool false,.int .i64 0,.int .i64 0].toArray):=⟨by kernel_rfl⟩
instance:EqT Tryz.prog 38 [some .i64,some .i64,some .i64,some .i64,some .i64,none,some .i64,some .i64,none,some .i64,some .i64]:=⟨by kernel_rfl⟩
instance:FieldT Tryz.prog 38 0 0:=⟨fun _ _ _=>by kernel_rfl⟩
instance:FieldT Tryz.prog 38 1 1:=⟨fun _ _ _=>by kernel_rfl⟩
instance:FieldT Tryz.prog 38 2 2:=⟨fun _ _ _=>by kernel_rfl⟩
instance:FieldT Tryz.prog 38 3 3:=⟨fun _ _ _=>by kernel_rfl⟩
instance:FieldT Tryz.prog 38 4 6:=⟨fun _ _ _=>by kernel_rfl⟩
instance:FieldT Tryz.prog 38 5 9:=⟨fun _ _ _=>by kernel_rfl⟩
instance:FieldT Tryz.prog 38 6 10:=⟨fun _ _ _=>by kernel_rfl⟩
instance:PlacesT Tryz.prog 38 [.int .i64 0,.int .i64 0,.int .i64 0,.int .i64 0,.int .i64 0,.bool false,.int .i64 0,.int .i64 0,.bool false,.int .i64 0,.int .i64 0] [(0,1),(1,1),(2,1),(3,3),(6,3),(9,1),(10,1)]:=⟨fun _ _=>by kernel_rfl⟩
instance:ZeroT Tryz.prog 40 (.slice none 0 0):=⟨by kernel_rfl⟩
instance:ZeroT Tryz.prog 43 (.agg [.int .i64 0,.int .i64 0,.int .i64 0,.int .i64 0,.int .i64 0,.int .i64 0,.bool false,.int .i64 0,.int .i64 0,.int .i64 0,.int .i64 0,.int .i64 0,.bool false,.int .i64 0,.int .i64 0,.bool false,.int .i64 0,.int .i64 0].toArray):=⟨by kernel_rfl⟩
instance:EqT Tryz.prog 43 [some .i64,some .i64,some .i64,some .i64,some .i64,some .i64,none,some .i64,some .i64,some .i64,some .i64,some .i64,none,some .i64,some .i64,none,some .i64,some .i64]:=⟨by kernel_rfl⟩
instance:FieldT Tryz.prog 43 0 0:=⟨fun _ _ _=>by kernel_rfl⟩
instance:FieldT Tryz.prog 43 1 1:=⟨fun _ _ _=>by kernel_rfl⟩
instance:FieldT Tryz.prog 43 2 2:=⟨fun _ _ _=>by kernel_rfl⟩
instance:FieldT Tryz.prog 43 3 3:=⟨fun _ _ _=>by kernel_rfl⟩
instance:FieldT Tryz.prog 43 4 4:=⟨fun _ _ _=>by kernel_rfl⟩
instance:FieldT Tryz.prog 43 5 7:=⟨fun _ _ _=>by kernel_rfl⟩
instance:PlacesT Tryz.prog 43 [.int .i64 0,.int .i64 0,.int .i64 0,.int .i64 0,.int .i64 0,.int .i64 0,.bool false,.int .i64 0,.int .i64 0,.int .i64 0,.int .i64 0,.int .i64 0,.bool false,.int .i64 0,.int .i64 0,.bool false,.int .i64 0,.int .i64 0] [(0,1),(1,1),(2,1),(3,1),(4,3),(7,11)]:=⟨fun _ _=>by kernel_rfl⟩
instance:ZeroT Tryz.prog 46 (.int .i64 0):=⟨by kernel_rfl⟩
instance:ZeroT Tryz.prog 53 (.slice none 0 0):=⟨by kernel_rfl⟩
instance:ZeroT Tryz.prog 55 (.slice none 0 0):=⟨by kernel_rfl⟩
instance:ZeroT Tryz.prog 58 (.agg [.int .i64 0,.int .i64 0,.int .i64 0,.int .i64 0,.int .i64 0,.int .i64 0,.int .i64 0,.int .i64 0,.int .i64 0,.bool false,.int .i64 0,.int .i64 0,.bool false,.int .i64 0,.int .i64 0,.int .i64 0,.int .i64 0,.bool false,.int .i64 0].toArray):=⟨by kernel_rfl⟩
instance:EqT Tryz.prog 58 [some .i64,some .i64,some .i64,some .i64,some .i64,some .i64,some .i64,some .i64,some .i64,none,some .i64,some .i64,none,some .i64,some .i64,some .i64,some .i64,none,some .i64]:=⟨by kernel_rfl⟩
instance:FieldT Tryz.prog 58 0 0:=⟨fun _ _ _=>by kernel_rfl⟩
instance:FieldT Tryz.prog 58 1 1:=⟨fun _ _ _=>by kernel_rfl⟩
instance:FieldT Tryz.prog 58 2 2:=⟨fun _ _ _=>by kernel_rfl⟩
instance:FieldT Tryz.prog 58 3 3:=⟨fun _ _ _=>by kernel_rfl⟩
instance:FieldT Tryz.prog 58 4 4:=⟨fun _ _ _=>by kernel_rfl⟩
instance:FieldT Tryz.prog 58 5 15:=⟨fun _ _ _=>by kernel_rfl⟩
instance:FieldT Tryz.prog 58 6 18:=⟨fun _ _ _=>by kernel_rfl⟩
instance:PlacesT Tryz.prog 58 [.int .i64 0,.int .i64 0,.int .i64 0,.int .i64 0,.int .i64 0,.int .i64 0,.int .i64 0,.int .i64 0,.int .i64 0,.bool false,.int .i64 0,.int .i64 0,.bool false,.int .i64 0,.int .i64 0,.int .i64 0,.int .i64 0,.bool false,.int .i64 0] [(0,1),(1,1),(2,1),(3,1),(4,11),(15,3),(18,1)]:=⟨fun _ _=>by kernel_rfl⟩
instance:ZeroT Tryz.prog 64 (.pointer none):=⟨by kernel_rfl⟩
instance:ZeroT Tryz.prog 70 (.pointer none):=⟨by kernel_rfl⟩
instance:ZeroT Tryz.prog 74 (.agg [.int .i64 0,.int .i64 0,.int .i64 0,.int .i64 0,.int .i64 0,.int .i64 0,.int .i64 0,.int .i64 0,.int .i64 0,.int .i64 0,.int .i64 0,.int .i64 0,.bool false,.int .i64 0,.int .i64 0,.bool false,.int .i64 0,.int .i64 0,.int .i64 0,.int .i64 0,.bool false,.int .i64 0].toArray):=⟨by kernel_rfl⟩
instance:EqT Tryz.prog 74 [some .i64,some .i64,some .i64,some .i64,some .i64,some .i64,some .i64,some .i64,some .i64,some .i64,some .i64,some .i64,none,some .i64,some .i64,none,some .i64,some .i64,some .i64,some .i64,none,some .i64]:=⟨by kernel_rfl⟩
instance:FieldT Tryz.prog 74 0 0:=⟨fun _ _ _=>by kernel_rfl⟩
instance:FieldT Tryz.prog 74 1 1:=⟨fun _ _ _=>by kernel_rfl⟩
instance:FieldT Tryz.prog 74 2 2:=⟨fun _ _ _=>by kernel_rfl⟩
instance:FieldT Tryz.prog 74 3 3:=⟨fun _ _ _=>by kernel_rfl⟩
instance:PlacesT Tryz.prog 74 [.int .i64 0,.int .i64 0,.int .i64 0,.int .i64 0,.int .i64 0,.int .i64 0,.int .i64 0,.int .i64 0,.int .i64 0,.int .i64 0,.int .i64 0,.int .i64 0,.bool false,.int .i64 0,.int .i64 0,.bool false,.int .i64 0,.int .i64 0,.int .i64 0,.int .i64 0,.bool false,.int .i64 0] [(0,1),(1,1),(2,1),(3,19)]:=⟨fun _ _=>by kernel_rfl⟩
instance:ZeroT Tryz.prog 76 (.pointer none):=⟨by kernel_rfl⟩
instance:ZeroT Tryz.prog 77 (.pointer none):=⟨by kernel_rfl⟩
instance:ZeroT Tryz.prog 78 (.slice none 0 0):=⟨by kernel_rfl⟩
instance:ZeroT Tryz.prog 80 (.agg [.pointer none,.pointer none,.slice none 0 0,.int .i64 0,.slice none 0 0].toArray):=⟨by kernel_rfl⟩
instance:FieldT Tryz.prog 80 0 0:=⟨fun _ _ _=>by kernel_rfl⟩
instance:FieldT Tryz.prog 80 1 1:=⟨fun _ _ _=>by kernel_rfl⟩
instance:FieldT Tryz.prog 80 2 2:=⟨fun _ _ _=>by kernel_rfl⟩
instance:FieldT Tryz.prog 80 3 3:=⟨fun _ _ _=>by kernel_rfl⟩
instance:FieldT Tryz.prog 80 4 4:=⟨fun _ _ _=>by kernel_rfl⟩
instance:PlacesT Tryz.prog 80 [.pointer none,.pointer none,.slice none 0 0,.int .i64 0,.slice none 0 0] [(0,1),(1,1),(2,1),(3,1),(4,1)]:=⟨fun _ _=>by kernel_rfl⟩
instance:ZeroT Tryz.prog 81 (.pointer none):=⟨by kernel_rfl⟩
instance:ZeroT Tryz.prog 85 (.agg [.int .i64 0,.int .i64 0,.slice none 0 0].toArray):=⟨by kernel_rfl⟩
instance:FieldT Tryz.prog 85 0 0:=⟨fun _ _ _=>by kernel_rfl⟩
instance:FieldT Tryz.prog 85 1 2:=⟨fun _ _ _=>by kernel_rfl⟩
instance:PlacesT Tryz.prog 85 [.int .i64 0,.int .i64 0,.slice none 0 0] [(0,2),(2,1)]:=⟨fun _ _=>by kernel_rfl⟩
instance:ZeroT Tryz.prog 102 (.agg [.int .i64 0,.int .i64 0,.int .i64 0,.slice none 0 0,.slice none 0 0,.slice none 0 0,.slice none 0 0,.int .i64 0,.int .i64 0,.int .i64 0,.int .i64 0,.int .i64 0,.int .i64 0,.int .i64 0,.int .i64 0,.bool false,.slice none 0 0,.slice none 0 0].toArray):=⟨by kernel_rfl⟩
instance:FieldT Tryz.prog 102 0 0:=⟨fun _ _ _=>by kernel_rfl⟩
instance:FieldT Tryz.prog 102 1 16:=⟨fun _ _ _=>by kernel_rfl⟩
instance:FieldT Tryz.prog 102 2 17:=⟨fun _ _ _=>by kernel_rfl⟩
instance:PlacesT Tryz.prog 102 [.int .i64 0,.int .i64 0,.int .i64 0,.slice none 0 0,.slice none 0 0,.slice none 0 0,.slice none 0 0,.int .i64 0,.int .i64 0,.int .i64 0,.int .i64 0,.int .i64 0,.int .i64 0,.int .i64 0,.int .i64 0,.bool false,.slice none 0 0,.slice none 0 0] [(0,16),(16,1),(17,1)]:=⟨fun _ _=>by kernel_rfl⟩
instance:ZeroT Tryz.prog 108 (.slice none 0 0):=⟨by kernel_rfl⟩
instance:ZeroT Tryz.prog 110 (.agg [.int .i64 0,.int .i64 0,.int .i64 0,.slice none 0 0,.slice none 0 0,.slice none 0 0,.slice none 0 0,.int .i64 0,.int .i64 0,.int .i64 0,.int .i64 0,.int .i64 0,.int .i64 0,.int .i64 0,.int .i64 0,.bool false,.slice none 0 0,.pointer none,.int .i64 0,.slice none 0 0].toArray):=⟨by kernel_rfl⟩
instance:FieldT Tryz.prog 110 0 0:=⟨fun _ _ _=>by kernel_rfl⟩
instance:FieldT Tryz.prog 110 1 16:=⟨fun _ _ _=>by kernel_rfl⟩
instance:FieldT Tryz.prog 110 2 17:=⟨fun _ _ _=>by kernel_rfl⟩
instance:FieldT Tryz.prog 110 3 18:=⟨fun _ _ _=>by kernel_rfl⟩
instance:FieldT Tryz.prog 110 4 19:=⟨fun _ _ _=>by kernel_rfl⟩
instance:PlacesT Tryz.prog 110 [.int .i64 0,.int .i64 0,.int .i64 0,.slice none 0 0,.slice none 0 0,.slice none 0 0,.slice none 0 0,.int .i64 0,.int .i64 0,.int .i64 0,.int .i64 0,.int .i64 0,.int .i64 0,.int .i64 0,.int .i64 0,.bool false,.slice none 0 0,.pointer none,.int .i64 0,.slice none 0 0] [(0,16),(16,1),(17,1),(18,1),(19,1)]:=⟨fun _ _=>by kernel_rfl⟩
instance:ZeroT Tryz.prog 111 (.pointer none):=⟨by kernel_rfl⟩
instance:ZeroT Tryz.prog 116 (.agg [.int .i64 0,.int .i64 0,.int .i64 0,.slice none 0 0,.slice none 0 0,.slice none 0 0,.slice none 0 0,.int .i64 0,.int .i64 0,.int .i64 0,.int .i64 0,.int .i64 0,.int .i64 0,.int .i64 0,.int .i64 0,.bool false,.int .i64 0,.int .i64 0,.int .i64 0,.bool false,.int .i64 0,.int .i64 0,.int .i64 0,.bool false,.int .i64 0,.int .i64 0,.int .i64 0,.int .i64 0,.int .i64 0,.bool false,.int .i64 0,.int .i64 0,.bool false,.int .i64 0,.int .i64 0,.int .i64 0,.int .i64 0,.int .i64 0,.bool false,.bool false].toArray):=⟨by kernel_rfl⟩
instance:FieldT Tryz.prog 116 0 0:=⟨fun _ _ _=>by kernel_rfl⟩
instance:FieldT Tryz.prog 116 1 16:=⟨fun _ _ _=>by kernel_rfl⟩
instance:FieldT Tryz.prog 116 2 17:=⟨fun _ _ _=>by kernel_rfl⟩
instance:FieldT Tryz.prog 116 3 20:=⟨fun _ _ _=>by kernel_rfl⟩
instance:FieldT Tryz.prog 116 4 21:=⟨fun _ _ _=>by kernel_rfl⟩
instance:FieldT Tryz.prog 116 5 22:=⟨fun _ _ _=>by kernel_rfl⟩
instance:FieldT Tryz.prog 116 6 23:=⟨fun _ _ _=>by kernel_rfl⟩
instance:FieldT Tryz.prog 116 7 24:=⟨fun _ _ _=>by kernel_rfl⟩
instance:FieldT Tryz.prog 116 8 35:=⟨fun _ _ _=>by kernel_rfl⟩
instance:FieldT Tryz.prog 116 9 36:=⟨fun _ _ _=>by kernel_rfl⟩
instance:FieldT Tryz.prog 116 10 37:=⟨fun _ _ _=>by kernel_rfl⟩
instance:FieldT Tryz.prog 116 11 38:=⟨fun _ _ _=>by kernel_rfl⟩
instance:FieldT Tryz.prog 116 12 39:=⟨fun _ _ _=>by kernel_rfl⟩
instance:PlacesT Tryz.prog 116 [.int .i64 0,.int .i64 0,.int .i64 0,.slice none 0 0,.slice none 0 0,.slice none 0 0,.slice none 0 0,.int .i64 0,.int .i64 0,.int .i64 0,.int .i64 0,.int .i64 0,.int .i64 0,.int .i64 0,.int .i64 0,.bool false,.int .i64 0,.int .i64 0,.int .i64 0,.bool false,.int .i64 0,.int .i64 0,.int .i64 0,.bool false,.int .i64 0,.int .i64 0,.int .i64 0,.int .i64 0,.int .i64 0,.bool false,.int .i64 0,.int .i64 0,.bool false,.int .i64 0,.int .i64 0,.int .i64 0,.int .i64 0,.int .i64 0,.bool false,.bool false] [(0,16),(16,1),(17,3),(20,1),(21,1),(22,1),(23,1),(24,11),(35,1),(36,1),(37,1),(38,1),(39,1)]:=⟨fun _ _=>by kernel_rfl⟩
instance:ZeroT Tryz.prog 117 (.pointer none):=⟨by kernel_rfl⟩
instance:ZeroT Tryz.prog 118 (.pointer none):=⟨by kernel_rfl⟩
instance:ZeroT Tryz.prog 120 (.agg [.int .i64 0,.pointer none,.pointer none,.int .i64 0,.int .i64 0,.bool false,.int .i64 0,.int .i64 0,.int .i64 0,.pointer none,.bool false,.int .i64 0].toArray):=⟨by kernel_rfl⟩
instance:FieldT Tryz.prog 120 0 0:=⟨fun _ _ _=>by kernel_rfl⟩
instance:FieldT Tryz.prog 120 1 1:=⟨fun _ _ _=>by kernel_rfl⟩
instance:FieldT Tryz.prog 120 2 2:=⟨fun _ _ _=>by kernel_rfl⟩
instance:FieldT Tryz.prog 120 3 3:=⟨fun _ _ _=>by kernel_rfl⟩
instance:FieldT Tryz.prog 120 4 6:=⟨fun _ _ _=>by kernel_rfl⟩
instance:FieldT Tryz.prog 120 5 7:=⟨fun _ _ _=>by kernel_rfl⟩
instance:FieldT Tryz.prog 120 6 8:=⟨fun _ _ _=>by kernel_rfl⟩
instance:FieldT Tryz.prog 120 7 9:=⟨fun _ _ _=>by kernel_rfl⟩
instance:FieldT Tryz.prog 120 8 10:=⟨fun _ _ _=>by kernel_rfl⟩
instance:FieldT Tryz.prog 120 9 11:=⟨fun _ _ _=>by kernel_rfl⟩
instance:PlacesT Tryz.prog 120 [.int .i64 0,.pointer none,.pointer none,.int .i64 0,.int .i64 0,.bool false,.int .i64 0,.int .i64 0,.int .i64 0,.pointer none,.bool false,.int .i64 0] [(0,1),(1,1),(2,1),(3,3),(6,1),(7,1),(8,1),(9,1),(10,1),(11,1)]:=⟨fun _ _=>by kernel_rfl⟩
instance:ZeroT Tryz.prog 122 (.slice none 0 0):=⟨by kernel_rfl⟩
instance:ZeroT Tryz.prog 124 (.agg [.pointer none,.int .i64 0,.int .i64 0,.int .i64 0,.slice none 0 0,.slice none 0 0].toArray):=⟨by kernel_rfl⟩
instance:FieldT Tryz.prog 124 0 0:=⟨fun _ _ _=>by kernel_rfl⟩
instance:FieldT Tryz.prog 124 1 1:=⟨fun _ _ _=>by kernel_rfl⟩
instance:FieldT Tryz.prog 124 2 2:=⟨fun _ _ _=>by kernel_rfl⟩
instance:FieldT Tryz.prog 124 3 3:=⟨fun _ _ _=>by kernel_rfl⟩
instance:FieldT Tryz.prog 124 4 4:=⟨fun _ _ _=>by kernel_rfl⟩
instance:FieldT Tryz.prog 124 5 5:=⟨fun _ _ _=>by kernel_rfl⟩
instance:PlacesT Tryz.prog 124 [.pointer none,.int .i64 0,.int .i64 0,.int .i64 0,.slice none 0 0,.slice none 0 0] [(0,1),(1,1),(2,1),(3,1),(4,1),(5,1)]:=⟨fun _ _=>by kernel_rfl⟩
instance:ZeroT Tryz.prog 132 (.agg [.int .i64 0,.int .i64 0,.int .i64 0,.int .i64 0,.int .i64 0,.bool false,.int .i64 0,.int .i64 0,.bool false,.int .i64 0,.int .i64 0,.int .i64 0,.int .i64 0,.bool false].toArray):=⟨by kernel_rfl⟩
instance:EqT Tryz.prog 132 [some .i64,some .i64,some .i64,some .i64,some .i64,none,some .i64,some .i64,none,some .i64,some .i64,some .i64,some .i64,none]:=⟨by kernel_rfl⟩
instance:FieldT Tryz.prog 132 0 0:=⟨fun _ _ _=>by kernel_rfl⟩
instance:FieldT Tryz.prog 132 1 11:=⟨fun _ _ _=>by kernel_rfl⟩
instance:FieldT Tryz.prog 132 2 12:=⟨fun _ _ _=>by kernel_rfl⟩
instance:FieldT Tryz.prog 132 3 13:=⟨fun _ _ _=>by kernel_rfl⟩
instance:PlacesT Tryz.prog 132 [.int .i64 0,.int .i64 0,.int .i64 0,.int .i64 0,.int .i64 0,.bool false,.int .i64 0,.int .i64 0,.bool false,.int .i64 0,.int .i64 0,.int .i64 0,.int .i64 0,.bool false] [(0,11),(11,1),(12,1),(13,1)]:=⟨fun _ _=>by kernel_rfl⟩
instance:ZeroT Tryz.prog 139 (.slice none 0 0):=⟨by kernel_rfl⟩
instance:ZeroT Tryz.prog 148 (.agg [.int .i64 0,.int .i64 0,.slice none 0 0].toArray):=⟨by kernel_rfl⟩
instance:FieldT Tryz.prog 148 0 0:=⟨fun _ _ _=>by kernel_rfl⟩
instance:FieldT Tryz.prog 148 1 1:=⟨fun _ _ _=>by kernel_rfl⟩
instance:FieldT Tryz.prog 148 2 2:=⟨fun _ _ _=>by kernel_rfl⟩
instance:PlacesT Tryz.prog 148 [.int .i64 0,.int .i64 0,.slice none 0 0] [(0,1),(1,1),(2,1)]:=⟨fun _ _=>by kernel_rfl⟩
instance:ZeroT Tryz.prog 153 (.int .u32 0):=⟨by kernel_rfl⟩
instance:ZeroT Tryz.prog 163 (.agg [.int .u32 0,.int .i32 0,.int .u32 0,.slice none 0 0].toArray):=⟨by kernel_rfl⟩
instance:FieldT Tryz.prog 163 0 0:=⟨fun _ _ _=>by kernel_rfl⟩
instance:FieldT Tryz.prog 163 1 3:=⟨fun _ _ _=>by kernel_rfl⟩
instance:PlacesT Tryz.prog 163 [.int .u32 0,.int .i32 0,.int .u32 0,.slice none 0 0] [(0,3),(3,1)]:=⟨fun _ _=>by kernel_rfl⟩
instance:ZeroT Tryz.prog 169 (.int .u64 0):=⟨by kernel_rfl⟩
instance:ZeroT Tryz.prog 176 (.agg [.int .i64 0,.int .i64 0,.int .i64 0].toArray):=⟨by kernel_rfl⟩
instance:EqT Tryz.prog 176 [some .i64,some .i64,some .i64]:=⟨by kernel_rfl⟩
instance:FieldT Tryz.prog 176 0 0:=⟨fun _ _ _=>by kernel_rfl⟩
instance:FieldT Tryz.prog 176 1 1:=⟨fun _ _ _=>by kernel_rfl⟩
instance:FieldT Tryz.prog 176 2 2:=⟨fun _ _ _=>by kernel_rfl⟩
instance:PlacesT Tryz.prog 176 [.int .i64 0,.int .i64 0,.int .i64 0] [(0,1),(1,1),(2,1)]:=⟨fun _ _=>by kernel_rfl⟩
instance:ZeroT Tryz.prog 178 (.slice none 0 0):=⟨by kernel_rfl⟩
instance:ZeroT Tryz.prog 192 (.int .u64 0):=⟨by kernel_rfl⟩
instance:ZeroT Tryz.prog 207 (.pointer none):=⟨by kernel_rfl⟩
instance:ZeroT Tryz.prog 216 (.pointer none):=⟨by kernel_rfl⟩
instance:ZeroT Tryz.prog 218 (.pointer none):=⟨by kernel_rfl⟩
instance:ZeroT Tryz.prog 220 (.pointer none):=⟨by kernel_rfl⟩
instance:ZeroT Tryz.prog 221 (.pointer none):=⟨by kernel_rfl⟩
instance:ZeroT Tryz.prog 223 (.pointer none):=⟨by kernel_rfl⟩
instance:ZeroT Tryz.prog 225 (.pointer none):=⟨by kernel_rfl⟩
instance:ZeroT Tryz.prog 228 (.pointer none):=⟨by kernel_rfl⟩
instance:ZeroT Tryz.prog 230 (.pointer none):=⟨by kernel_rfl⟩
instance:ZeroT Tryz.prog 247 (.pointer none):=⟨by kernel_rfl⟩
instance:PtrT Tryz.prog 15:=⟨by kernel_rfl⟩
instance:PtrT Tryz.prog 16:=⟨by kernel_rfl⟩
instance:PtrT Tryz.prog 17:=⟨by kernel_rfl⟩
instance:SlT Tryz.prog 22 34:=⟨by kernel_rfl⟩
instance:SlT Tryz.prog 23 36:=⟨by kernel_rfl⟩
instance:SlT Tryz.prog 24 85:=⟨by kernel_rfl⟩
instance:SlT Tryz.prog 27 74:=⟨by kernel_rfl⟩
instance:PtrT Tryz.prog 30:=⟨by kernel_rfl⟩
instance:SlT Tryz.prog 40 43:=⟨by kernel_rfl⟩
instance:SlT Tryz.prog 53 3:=⟨by kernel_rfl⟩
instance:SlT Tryz.prog 55 58:=⟨by kernel_rfl⟩
instance:PtrT Tryz.prog 64:=⟨by kernel_rfl⟩
instance:PtrT Tryz.prog 70:=⟨by kernel_rfl⟩
instance:PtrT Tryz.prog 76:=⟨by kernel_rfl⟩
instance:PtrT Tryz.prog 77:=⟨by kernel_rfl⟩
instance:SlT Tryz.prog 78 81:=⟨by kernel_rfl⟩
instance:PtrT Tryz.prog 81:=⟨by kernel_rfl⟩
instance:SlT Tryz.prog 108 111:=⟨by kernel_rfl⟩
instance:PtrT Tryz.prog 111:=⟨by kernel_rfl⟩
instance:PtrT Tryz.prog 117:=⟨by kernel_rfl⟩
instance:PtrT Tryz.prog 118:=⟨by kernel_rfl⟩
instance:SlT Tryz.prog 122 53:=⟨by kernel_rfl⟩
instance:SlT Tryz.prog 139 38:=⟨by kernel_rfl⟩
instance:SlT Tryz.prog 178 4:=⟨by kernel_rfl⟩
instance:PtrT Tryz.prog 207:=⟨by kernel_rfl⟩
instance:PtrT Tryz.prog 216:=⟨by kernel_rfl⟩
instance:PtrT Tryz.prog 218:=⟨by kernel_rfl⟩
instance:PtrT Tryz.prog 220:=⟨by kernel_rfl⟩
instance:PtrT Tryz.prog 221:=⟨by kernel_rfl⟩
instance:PtrT Tryz.prog 223:=⟨by kernel_rfl⟩
instance:PtrT Tryz.prog 225:=⟨by kernel_rfl⟩
instance:PtrT Tryz.prog 228:=⟨by kernel_rfl⟩
instance:PtrT Tryz.prog 230:=⟨by kernel_rfl⟩
instance:PtrT Tryz.prog 247:=⟨by kernel_rfl⟩
instance:BodyT Tryz.prog 3:=⟨fun _ _=>by kernel_rfl⟩
instance:BodyT Tryz.prog 4:=⟨fun _ _=>by kernel_rfl⟩
instance:BodyT Tryz.prog 5:=⟨fun _ _=>by kernel_rfl⟩
instance:BodyT Tryz.prog 6:=⟨fun _ _=>by kernel_rfl⟩
instance:BodyT Tryz.prog 7:=⟨fun _ _=>by kernel_rfl⟩
instance:BodyT Tryz.prog 8:=⟨fun _ _=>by kernel_rfl⟩
instance:BodyT Tryz.prog 9:=⟨fun _ _=>by kernel_rfl⟩
instance:BodyT Tryz.prog 10:=⟨fun _ _=>by kernel_rfl⟩
instance:BodyT Tryz.prog 11:=⟨fun _ _=>by kernel_rfl⟩
instance:BodyT Tryz.prog 12:=⟨fun _ _=>by kernel_rfl⟩
instance:BodyT Tryz.prog 13:=⟨fun _ _=>by kernel_rfl⟩
instance:BodyT Tryz.prog 14:=⟨fun _ _=>by kernel_rfl⟩
instance:BodyT Tryz.prog 15:=⟨fun _ _=>by kernel_rfl⟩
instance:BodyT Tryz.prog 16:=⟨fun _ _=>by kernel_rfl⟩
instance:BodyT Tryz.prog 17:=⟨fun _ _=>by kernel_rfl⟩
instance:BodyT Tryz.prog 18:=⟨fun _ _=>by kernel_rfl⟩
instance:BodyT Tryz.prog 19:=⟨fun _ _=>by kernel_rfl⟩
instance:BodyT Tryz.prog 20:=⟨fun _ _=>by kernel_rfl⟩
instance:BodyT Tryz.prog 21:=⟨fun _ _=>by kernel_rfl⟩
instance:BodyT Tryz.prog 22:=⟨fun _ _=>by kernel_rfl⟩
instance:BodyT Tryz.prog 23:=⟨fun _ _=>by kernel_rfl⟩
instance:BodyT Tryz.prog 24:=⟨fun _ _=>by kernel_rfl⟩
instance:BodyT Tryz.prog 25:=⟨fun _ _=>by kernel_rfl⟩
instance:BodyT Tryz.prog 26:=⟨fun _ _=>by kernel_rfl⟩
instance:BodyT Tryz.prog 27:=⟨fun _ _=>by kernel_rfl⟩
instance:BodyT Tryz.prog 28:=⟨fun _ _=>by kernel_rfl⟩
instance:BodyT Tryz.prog 29:=⟨fun _ _=>by kernel_rfl⟩
instance:BodyT Tryz.prog 30:=⟨fun _ _=>by kernel_rfl⟩
instance:BodyT Tryz.prog 31:=⟨fun _ _=>by kernel_rfl⟩
instance:BodyT Tryz.prog 32:=⟨fun _ _=>by kernel_rfl⟩
instance:BodyT Tryz.prog 33:=⟨fun _ _=>by kernel_rfl⟩
instance:BodyT Tryz.prog 34:=⟨fun _ _=>by kernel_rfl⟩
instance:BodyT Tryz.prog 35:=⟨fun _ _=>by kernel_rfl⟩
instance:BodyT Tryz.prog 36:=⟨fun _ _=>by kernel_rfl⟩
instance:BodyT Tryz.prog 37:=⟨fun _ _=>by kernel_rfl⟩
instance:BodyT Tryz.prog 38:=⟨fun _ _=>by kernel_rfl⟩
instance:BodyT Tryz.prog 39:=⟨fun _ _=>by kernel_rfl⟩
instance:BodyT Tryz.prog 40:=⟨fun _ _=>by kernel_rfl⟩
instance:BodyT Tryz.prog 41:=⟨fun _ _=>by kernel_rfl⟩
instance:BodyT Tryz.prog 42:=⟨fun _ _=>by kernel_rfl⟩
instance:BodyT Tryz.prog 43:=⟨fun _ _=>by kernel_rfl⟩
instance:BodyT Tryz.prog 44:=⟨fun _ _=>by kernel_rfl⟩
instance:BodyT Tryz.prog 45:=⟨fun _ _=>by kernel_rfl⟩
instance:BodyT Tryz.prog 46:=⟨fun _ _=>by kernel_rfl⟩
instance:BodyT Tryz.prog 47:=⟨fun _ _=>by kernel_rfl⟩
instance:BodyT Tryz.prog 48:=⟨fun _ _=>by kernel_rfl⟩
instance:BodyT Tryz.prog 49:=⟨fun _ _=>by kernel_rfl⟩
instance:BodyT Tryz.prog 50:=⟨fun _ _=>by kernel_rfl⟩
instance:BodyT Tryz.prog 51:=⟨fun _ _=>by kernel_rfl⟩
instance:BodyT Tryz.prog 52:=⟨fun _ _=>by kernel_rfl⟩
instance:BodyT Tryz.prog 53:=⟨fun _ _=>by kernel_rfl⟩
instance:BodyT Tryz.prog 54:=⟨fun _ _=>by kernel_rfl⟩
instance:BodyT Tryz.prog 55:=⟨fun _ _=>by kernel_rfl⟩
instance:BodyT Tryz.prog 56:=⟨fun _ _=>by kernel_rfl⟩
instance:BodyT Tryz.prog 57:=⟨fun _ _=>by kernel_rfl⟩
instance:BodyT Tryz.prog 58:=⟨fun _ _=>by kernel_rfl⟩
instance:BodyT Tryz.prog 59:=⟨fun _ _=>by kernel_rfl⟩
instance:BodyT Tryz.prog 60:=⟨fun _ _=>by kernel_rfl⟩
instance:BodyT Tryz.prog 61:=⟨fun _ _=>by kernel_rfl⟩
instance:BodyT Tryz.prog 62:=⟨fun _ _=>by kernel_rfl⟩
instance:BodyT Tryz.prog 63:=⟨fun _ _=>by kernel_rfl⟩
instance:BodyT Tryz.prog 65:=⟨fun _ _=>by kernel_rfl⟩
instance:BodyT Tryz.prog 66:=⟨fun _ _=>by kernel_rfl⟩
instance:BodyT Tryz.prog 67:=⟨fun _ _=>by kernel_rfl⟩
instance:BodyT Tryz.prog 68:=⟨fun _ _=>by kernel_rfl⟩
instance:BodyT Tryz.prog 69:=⟨fun _ _=>by kernel_rfl⟩
instance:BodyT Tryz.prog 70:=⟨fun _ _=>by kernel_rfl⟩
instance:BodyT Tryz.prog 71:=⟨fun _ _=>by kernel_rfl⟩
instance:BodyT Tryz.prog 72:=⟨fun _ _=>by kernel_rfl⟩
instance:BodyT Tryz.prog 73:=⟨fun _ _=>by kernel_rfl⟩
instance:BodyT Tryz.prog 74:=⟨fun _ _=>by kernel_rfl⟩
instance:BodyT Tryz.prog 75:=⟨fun _ _=>by kernel_rfl⟩
instance:BodyT Tryz.prog 76:=⟨fun _ _=>by kernel_rfl⟩
instance:BodyT Tryz.prog 77:=⟨fun _ _=>by kernel_rfl⟩
instance:BodyT Tryz.prog 78:=⟨fun _ _=>by kernel_rfl⟩
instance:BodyT Tryz.prog 79:=⟨fun _ _=>by kernel_rfl⟩
instance:BodyT Tryz.prog 80:=⟨fun _ _=>by kernel_rfl⟩
instance:BodyT Tryz.prog 81:=⟨fun _ _=>by kernel_rfl⟩
instance:BodyT Tryz.prog 82:=⟨fun _ _=>by kernel_rfl⟩
instance:BodyT Tryz.prog 83:=⟨fun _ _=>by kernel_rfl⟩
instance:BodyT Tryz.prog 84:=⟨fun _ _=>by kernel_rfl⟩
instance:BodyT Tryz.prog 85:=⟨fun _ _=>by kernel_rfl⟩
instance:BodyT Tryz.prog 86:=⟨fun _ _=>by kernel_rfl⟩
instance:BodyT Tryz.prog 89:=⟨fun _ _=>by kernel_rfl⟩
instance:BodyT Tryz.prog 90:=⟨fun _ _=>by kernel_rfl⟩
instance:BodyT Tryz.prog 91:=⟨fun _ _=>by kernel_rfl⟩
instance:BodyT Tryz.prog 92:=⟨fun _ _=>by kernel_rfl⟩
instance:BodyT Tryz.prog 93:=⟨fun _ _=>by kernel_rfl⟩
instance:BodyT Tryz.prog 94:=⟨fun _ _=>by kernel_rfl⟩
instance:BodyT Tryz.prog 95:=⟨fun _ _=>by kernel_rfl⟩
instance:BodyT Tryz.prog 96:=⟨fun _ _=>by kernel_rfl⟩
instance:BodyT Tryz.prog 97:=⟨fun _ _=>by kernel_rfl⟩
instance:BodyT Tryz.prog 98:=⟨fun _ _=>by kernel_rfl⟩
instance:BodyT Tryz.prog 99:=⟨fun _ _=>by kernel_rfl⟩
instance:BodyT Tryz.prog 100:=⟨fun _ _=>by kernel_rfl⟩
instance:BodyT Tryz.prog 101:=⟨fun _ _=>by kernel_rfl⟩
instance:BodyT Tryz.prog 102:=⟨fun _ _=>by kernel_rfl⟩
instance:BodyT Tryz.prog 103:=⟨fun _ _=>by kernel_rfl⟩
instance:BodyT Tryz.prog 104:=⟨fun _ _=>by kernel_rfl⟩
instance:BodyT Tryz.prog 105:=⟨fun _ _=>by kernel_rfl⟩
instance:BodyT Tryz.prog 106:=⟨fun _ _=>by kernel_rfl⟩
instance:BodyT Tryz.prog 107:=⟨fun _ _=>by kernel_rfl⟩
instance:BodyT Tryz.prog 119:=⟨fun _ _=>by kernel_rfl⟩
instance:BodyT Tryz.prog 120:=⟨fun _ _=>by kernel_rfl⟩
instance:BodyT Tryz.prog 121:=⟨fun _ _=>by kernel_rfl⟩
instance:BodyT Tryz.prog 122:=⟨fun _ _=>by kernel_rfl⟩
instance:BodyT Tryz.prog 123:=⟨fun _ _=>by kernel_rfl⟩
instance:BodyT Tryz.prog 124:=⟨fun _ _=>by kernel_rfl⟩
instance:BodyT Tryz.prog 125:=⟨fun _ _=>by kernel_rfl⟩
instance:BodyT Tryz.prog 126:=⟨fun _ _=>by kernel_rfl⟩
instance:BodyT Tryz.prog 127:=⟨fun _ _=>by kernel_rfl⟩
instance:BodyT Tryz.prog 128:=⟨fun _ _=>by kernel_rfl⟩
instance:BodyT Tryz.prog 129:=⟨fun _ _=>by kernel_rfl⟩
instance:BodyT Tryz.prog 130:=⟨fun _ _=>by kernel_rfl⟩
instance:BodyT Tryz.prog 137:=⟨fun _ _=>by kernel_rfl⟩
instance:BodyT Tryz.prog 138:=⟨fun _ _=>by kernel_rfl⟩
instance:BodyT Tryz.prog 139:=⟨fun _ _=>by kernel_rfl⟩
instance:BodyT Tryz.prog 140:=⟨fun _ _=>by kernel_rfl⟩
instance:BodyT Tryz.prog 141:=⟨fun _ _=>by kernel_rfl⟩
instance:BodyT Tryz.prog 142:=⟨fun _ _=>by kernel_rfl⟩
instance:BodyT Tryz.prog 143:=⟨fun _ _=>by kernel_rfl⟩
instance:BodyT Tryz.prog 144:=⟨fun _ _=>by kernel_rfl⟩
instance:BodyT Tryz.prog 145:=⟨fun _ _=>by kernel_rfl⟩
instance:BodyT Tryz.prog 146:=⟨fun _ _=>by kernel_rfl⟩
instance:BodyT Tryz.prog 147:=⟨fun _ _=>by kernel_rfl⟩
instance:BodyT Tryz.prog 148:=⟨fun _ _=>by kernel_rfl⟩
instance:BodyT Tryz.prog 149:=⟨fun _ _=>by kernel_rfl⟩
instance:BodyT Tryz.prog 151:=⟨fun _ _=>by kernel_rfl⟩
instance:BodyT Tryz.prog 152:=⟨fun _ _=>by kernel_rfl⟩
instance:BodyT Tryz.prog 153:=⟨fun _ _=>by kernel_rfl⟩
instance:BodyT Tryz.prog 155:=⟨fun _ _=>by kernel_rfl⟩
end Go.Proofs.YtngeeilkpnihmaaGreatDoor
namespace Go.Proofs.YtngeeilkpnihmaaGreatDoor
open Go Go.Sk Go.RowKit
set_option maxRecDepth 100000
attribute [local irreducible] wpList Code.wp Calls
structure Junk where
 left:Int
 gone:Int
 wait:Int
 cut:Bool
def drL (c:ConfV) (i:Int) (r:RM) (x:Junk):List Value:=match r.under with
 |none=>c.cells++([.int .i64 i]++(r.pose.cells++([.int .i64 r.load,.int .i64 r.epoch,.int .i64 r.num,.bool false]++(mvZ.cells++[.int .i64 x.left,.int .i64 x.gone,.int .i64 x.wait,.bool r.stopping,.bool x.cut]))))
 |some g=>c.cells++([.int .i64 i]++(r.pose.cells++([.int .i64 r.load,.int .i64 r.epoch,.int .i64 r.num,.bool true]++(g.move.cells++[.int .i64 g.left,.int .i64 g.t,.int .i64 r.delay,.bool r.stopping,.bool g.cut]))))
@[irreducible] def rDR (c:ConfV) (i:Int) (q:Nat) (r:RM):Res where
  p w S:= ∃ x,(rBlk q (drL c i r x) 116).p w S
  loc:=by rintro w w' S ⟨x,h⟩ he;exact ⟨x,(rBlk q (drL c i r x) 116).loc h he⟩
  lt:=by rintro w S ⟨x,h⟩;exact (rBlk q (drL c i r x) 116).lt h
theorem rDR_p {c:ConfV} {i:Int} {q:Nat} {r:RM} {w:World} {S:Nat->Prop}:(rDR c i q r).p w S ↔ ∃ x,(rBlk q (drL c i r x) 116).p w S:=by unfold rDR;exact Iff.rfl
theorem Know.dr {c:ConfV} {i:Int} {q:Nat} {r:RM} {w0 w:World} {S:Nat->Prop} {L:List Res} (h:Know w0 w S [rDR c i q r] L): ∃ x,Know w0 w S [rBlk q (drL c i r x) 116] L:=by
 obtain ⟨hm,U,⟨S1,V,h1,h2,h3,h4⟩,h5,h6⟩:=h
 obtain ⟨x,k⟩:=rDR_p.1 h1
 exact ⟨x,hm,U,⟨S1,V,k,h2,h3,h4⟩,h5,h6⟩
theorem Has.dr {c:ConfV} {i:Int} {q:Nat} {r:RM} {w:World} (h:Has w (rDR c i q r)): ∃ x,Has w (rBlk q (drL c i r x) 116):=by
 obtain ⟨S,h⟩:=h
 obtain ⟨x,h⟩:=rDR_p.1 h
 exact ⟨x,S,h⟩
def drEnd (c:ConfV) (i:Int) (q:Nat) (v:RM×List Tele×Int) (w:World) (S:Nat->Prop) (en:Ending) (w':World):Prop:=
 ∃ ad cap,en=.returned (.tuple #[.slice ad v.2.1.length cap,.int .i64 v.2.2])/\Turns [rOw 58 elTele (.slice ad v.2.1.length cap) v.2.1,rDR c i q v.1] w w' S
theorem drEnd_nil {c:ConfV} {i:Int} {q:Nat} {r:RM} (x:Junk) {how:Int} {w w':World} {S:Nat->Prop} {M L:List Res} (hK:Know w w' S M L) (hs:List.Sublist [rBlk q (drL c i r x) 116] M):drEnd c i q (r,[],how) w S (.returned (.tuple #[.slice none 0 0,.int .i64 how])) w':=by
 have h1:=(hK.sub hs).nil 58 elTele
 exact ⟨none,0,rfl,(h1.seen (r':=rDR c i q r) (fun _ _ hh=>rDR_p.2 ⟨x,hh⟩) (.tail .head)).turns⟩
theorem drEnd_tell {c:ConfV} {i:Int} {q:Nat} {r:RM} (x:Junk) {how:Int} {ad:Option Addr} {w w':World} {S:Nat->Prop} {M L:List Res} (hK:Know w w' S M L) (hs:List.Sublist [rOw 58 elTele (.slice ad 1 1) [r.tell i],rBlk q (drL c i r x) 116] M):drEnd c i q (r,[r.tell i],how) w S (.returned (.tuple #[.slice ad 1 1,.int .i64 how])) w':=
 ⟨ad,1,rfl,((hK.sub hs).seen (r':=rDR c i q r) (fun _ _ hh=>rDR_p.2 ⟨x,hh⟩) (.tail .head)).turns⟩
theorem drL_tell {c:ConfV} {i:Int} {r:RM} {x:Junk} {q:Nat} {w:World} (h:Has w (rBlk q (drL c i r x) 116)):Calls Tryz.prog 82 #[.pointer (some ⟨q,0,none⟩)] w fun e w'=>
 ∃ ad,e=.returned (.slice ad 1 1)/\Turn (rOw 58 elTele (.slice ad 1 1) [r.tell i]) w w' none':=by
 have hK:Know w w none' [] [rBlk q (drL c i r x) 116]:=Know.start (L:=[rBlk q (drL c i r x) 116]) w (by simpa using h)
 clear h
 obtain ⟨⟨⟨px,py⟩,pd⟩,load,epoch,num,under,stopping,delay⟩:=r
 generalize ht:RM.tell i ⟨⟨⟨px,py⟩,pd⟩,load,epoch,num,under,stopping,delay⟩=t
 have HT:=Lib.hid ht
 clear ht
 cases under
 all_goals
  simp only [drL,ConfV.cells,Pose.cells,Cell.cells,Go.Sk.Move.cells,mvZ,List.cons_append,List.nil_append] at hK
  refine calls_al _ Tryz.func82 rfl Tryz.ntmps82 (Nat.le_of_ble_eq_true rfl) ?_
  simp only [parL,Nat.reduceAdd]
  repeat' (first
   |((with_reducible refine tx 2 hK ?_);clear hK;intro w' hK)
   |((with_reducible refine tx 3 hK ?_);clear hK;intro w' hK)
   |((with_reducible refine wt 32 ?_);(refine wl_buildK 58 elTele [(⟨4,i,epoch,0,mvZ,⟨⟨px,py⟩,pd⟩,load⟩:Tele)] hK rfl rfl (fun W=>by kernel_rfl) rfl (by decide) ?_;clear hK;intro ad w32 hK))
   |((with_reducible refine wt 46 ?_);(refine wl_buildK 58 elTele [(⟨3,i,epoch,num,mvZ,poseO,0⟩:Tele)] hK rfl rfl (fun W=>by kernel_rfl) rfl (by decide) ?_;clear hK;intro ad w46 hK))
   |(refine sl ?_)
   |((with_reducible refine wl_at ?_);first|refine al ?_|refine Held.out ?_)
   |(with_reducible refine Two.mk (fun h=>?_) (fun h=>?_)<;>go_prune)
   |(with_reducible refine en ?_)
   |(with_reducible refine ret_at ?_)
   |(with_reducible refine fun (w':World) (b:Nat) hK'=>?_;clear hK;have hK:=hK';clear hK')
   |(with_reducible refine fun (w':World) hK'=>?_;clear hK;have hK:=hK';clear hK')
   |(with_reducible refine fun (b k:Nat) hat=>?_))
  all_goals
   refine al_ret1 rfl Vis.sl ⟨ad,rfl,?_⟩
   rw [<-HT.out]
   unfold RM.tell
   simp only
   split<;>first|exact hK.turn|(exfalso;omega)
theorem dr_tell {c:ConfV} {i:Int} {r:RM} {q:Nat} {w:World} (h:Has w (rDR c i q r)):Calls Tryz.prog 82 #[.pointer (some ⟨q,0,none⟩)] w fun e w'=>
 ∃ ad,e=.returned (.slice ad 1 1)/\Turn (rOw 58 elTele (.slice ad 1 1) [r.tell i]) w w' none':=by
 obtain ⟨x,h⟩:=Has.dr h
 exact drL_tell h
end Go.Proofs.YtngeeilkpnihmaaGreatDoor
namespace Go.Proofs.YtngeeilkpnihmaaGreatDoor
open Go Go.Sk Go.RowKit
set_option maxRecDepth 100000
attribute [local irreducible] wpList Code.wp Calls
theorem dr_goes {c:ConfV} {i:Int} {t:Tele} {q:Nat} {r:RM} {n:Int} {w:World} {S:Nat->Prop} (hok:RMOk c.p r n) (hn:n<=1000000000) (hz:Sized c) (h:Know w w S [rDR c i q r] [rConf c]):
 Calls Tryz.prog 96 #[.pointer (some ⟨q,0,none⟩),.agg t.cells.toArray] w (drEnd c i q (r.goesD c.p i t) w S):=by
 obtain ⟨x,hK⟩:=Know.dr h
 clear h
 obtain ⟨⟨⟨px,py⟩,pd⟩,load,epoch,num,under,stopping,delay⟩:=r
 obtain ⟨tk,tr,te,tn,⟨mk,md,mn,⟨⟨sx,sy⟩,sd⟩,⟨⟨dx,dy⟩,dd⟩,ma,me⟩,tp,tl⟩:=t
 obtain ⟨hnum0,hnum1⟩:0<=num/\num<=n:=hok.num
 have hpw:PoseWf ⟨⟨px,py⟩,pd⟩:=wfp hok.pose
 have kG:=Lib.hid (fun (W:World) (h:Has W (rConf c)) (e:(⟨⟨sx,sy⟩,sd⟩:Pose)=⟨⟨px,py⟩,pd⟩)=>ref_legal (c:=c) (m:=⟨mk,md,mn,⟨⟨sx,sy⟩,sd⟩,⟨⟨dx,dy⟩,dd⟩,ma,me⟩) (w:=W) h hz (by rw [show (⟨mk,md,mn,⟨⟨sx,sy⟩,sd⟩,⟨⟨dx,dy⟩,dd⟩,ma,me⟩:Go.Sk.Move).src=⟨⟨sx,sy⟩,sd⟩ from rfl,e];exact hpw))
 have HE:=Lib.hid (show ∀ v,(RM.goesD c.p i ⟨⟨⟨px,py⟩,pd⟩,load,epoch,num,under,stopping,delay⟩ ⟨tk,tr,te,tn,⟨mk,md,mn,⟨⟨sx,sy⟩,sd⟩,⟨⟨dx,dy⟩,dd⟩,ma,me⟩,tp,tl⟩)=v->v=v from fun _ _=>rfl)
 generalize hv:RM.goesD c.p i ⟨⟨⟨px,py⟩,pd⟩,load,epoch,num,under,stopping,delay⟩ ⟨tk,tr,te,tn,⟨mk,md,mn,⟨⟨sx,sy⟩,sd⟩,⟨⟨dx,dy⟩,dd⟩,ma,me⟩,tp,tl⟩=v
 have HV:=Lib.hid hv
 have hst:=hok.still
 clear hv HE hok
 have kT:=Lib.hid (fun (W:World) (h:Has W (rBlk q (drL c i ⟨⟨⟨px,py⟩,pd⟩,load,epoch,num,under,stopping,delay⟩ x) 116))=>drL_tell h)
 cases under
 all_goals
  first
   |(obtain ⟨rfl,rfl⟩:=hst rfl)
   |(rename_i g;clear hst;obtain ⟨⟨gk,gd,gn,⟨⟨gsx,gsy⟩,gsd⟩,⟨⟨gdx,gdy⟩,gdd⟩,ga,ge⟩,gt,gl,gc⟩:=g)
  simp only [drL,ConfV.cells,Pose.cells,Cell.cells,Go.Sk.Move.cells,mvZ,List.cons_append,List.nil_append] at kT
  simp only [drL,ConfV.cells,Pose.cells,Cell.cells,Go.Sk.Move.cells,mvZ,List.cons_append,List.nil_append] at hK
  simp only [Tele.cells,Pose.cells,Cell.cells,Go.Sk.Move.cells,List.cons_append,List.nil_append]
  refine calls_al _ Tryz.func96 rfl Tryz.ntmps96 (Nat.le_of_ble_eq_true rfl) ?_
  simp only [parL,Nat.reduceAdd]
  repeat' (first
   |((with_reducible refine tx 1 hK ?_);clear hK;intro w' hK)
   |((with_reducible refine tx 3 hK ?_);clear hK;intro w' hK)
   |((with_reducible refine tx 5 hK ?_);clear hK;intro w' hK)
   |((with_reducible refine tx 8 hK ?_);clear hK;intro w' hK)
   |(go_at_call 82;(refine (kT.out _ hK.own).mono ?_;rintro e w' ⟨ad,rfl,hT⟩;replace hK:=hK.push1 hT;clear hT))
   |(go_at_call 124;(refine (hK.quiet (ref_less)).mono ?_;clear hK;rintro e w' ⟨rfl,hK⟩))
   |(go_at_call 99;(refine (hK.quiet (kG.out _ hK.lent (by assumption))).mono ?_;clear hK;rintro e w' ⟨rfl,hK⟩;cases hL:legalP c.p ⟨mk,md,mn,⟨⟨sx,sy⟩,sd⟩,⟨⟨dx,dy⟩,dd⟩,ma,me⟩))
   |(refine sl ?_)
   |((with_reducible refine wl_at ?_);first|refine al ?_|refine Held.out ?_)
   |(with_reducible refine Two.mk (fun h=>?_) (fun h=>?_)<;>go_prune)
   |(with_reducible refine en ?_)
   |(with_reducible refine ret_at ?_)
   |(with_reducible refine fun (w':World) (b:Nat) hK'=>?_;clear hK;have hK:=hK';clear hK')
   |(with_reducible refine fun (w':World) hK'=>?_;clear hK;have hK:=hK';clear hK')
   |(with_reducible refine fun (b k:Nat) hat=>?_))
  all_goals first|refine al_ret2 rfl Vis.sl Vis.int ?_|(trace_state;skip)
  all_goals
   rw [<-HV.out]
   clear kG kT HV
   unfold RM.goesD
   simp only [Option.isSome_none,Option.isSome_some,Bool.false_eq_true,or_false,or_true,if_true]
   repeat' split
   all_goals first
    |exact drEnd_nil x hK (.cons _ (.cons_cons _ .slnil))
    |exact drEnd_nil ⟨0,0,0,false⟩ hK (.cons _ (.cons_cons _ .slnil))
    |exact drEnd_tell x hK (.cons_cons _ (.cons _ (.cons_cons _ .slnil)))
    |(exfalso;omega)
    |(exfalso;rename_i hh;exact hh ⟨by omega,by assumption,by assumption,by omega⟩)
    |(exfalso;rename_i hh;obtain ⟨h1,h2,h3,h4⟩:=hh;first|contradiction|omega|(rw [hL] at h3;cases h3))
end Go.Proofs.YtngeeilkpnihmaaGreatDoor
namespace Go.Proofs.YtngeeilkpnihmaaGreatDoor
open Go Go.Sk Go.RowKit
set_option maxRecDepth 100000
attribute [local irreducible] wpList Code.wp Calls
theorem dr_turn {c:ConfV} {i:Int} {q:Nat} {r:RM} (x:Junk) {w w':World} {S:Nat->Prop} {L:List Res} (h:Know w w' S [rBlk q (drL c i r x) 116] L):Turn (rDR c i q r) w w' S:=by
 obtain ⟨h1,S',h2,h3⟩:=h.turn
 exact ⟨h1,S',rDR_p.2 ⟨x,h2⟩,h3⟩
theorem dr_delay {c:ConfV} {i d:Int} {q:Nat} {r:RM} {n:Int} {w:World} {S:Nat->Prop} (hok:RMOk c.p r n) (h:(rDR c i q r).p w S):Calls Tryz.prog 79 #[.pointer (some ⟨q,0,none⟩),.int .i64 d] w fun e w'=>e=.returned (.tuple #[])/\Turn (rDR c i q (r.hold d)) w w' S:=by
 obtain ⟨x,hx⟩:=rDR_p.1 h
 have hK:Know w w S [rBlk q (drL c i r x) 116] []:=Know.start1 hx (by simp)
 have hd:=hok.delay
 clear hok h hx
 obtain ⟨⟨⟨px,py⟩,pd⟩,load,epoch,num,under,stopping,delay⟩:=r
 obtain ⟨hd0,hd1⟩:0<=delay/\delay<=1000000:=hd
 generalize hv:RM.hold ⟨⟨⟨px,py⟩,pd⟩,load,epoch,num,under,stopping,delay⟩ d=v
 have HV:=Lib.hid hv
 clear hv
 cases under
 all_goals
  try (rename_i g;obtain ⟨⟨gk,gd,gn,⟨⟨gsx,gsy⟩,gsd⟩,⟨⟨gdx,gdy⟩,gdd⟩,ga,ge⟩,gt,gl,gc⟩:=g)
  simp only [drL,ConfV.cells,Pose.cells,Cell.cells,Go.Sk.Move.cells,mvZ,List.cons_append,List.nil_append] at hK
  refine calls_al _ Tryz.func79 rfl Tryz.ntmps79 (Nat.le_of_ble_eq_true rfl) ?_
  simp only [parL,Nat.reduceAdd]
  repeat' (first
   |(refine sl ?_)
   |((with_reducible refine wl_at ?_);first|refine al ?_|refine Held.out ?_)
   |(with_reducible refine Two.mk (fun h=>?_) (fun h=>?_)<;>go_prune)
   |(with_reducible refine en ?_)
   |(with_reducible refine ret_at ?_)
   |(with_reducible refine fun (w':World) (b:Nat) hK'=>?_;clear hK;have hK:=hK';clear hK')
   |(with_reducible refine fun (w':World) hK'=>?_;clear hK;have hK:=hK';clear hK')
   |(with_reducible refine fun (b k:Nat) hat=>?_))
  all_goals
   first|refine al_ret0 rfl ⟨rfl,?_⟩|refine al_end0 rfl ⟨rfl,?_⟩
   rw [<-HV.out]
   clear HV
   unfold RM.hold
   simp only [Option.isSome_none,Option.isSome_some,Bool.false_eq_true,false_and,true_and,if_false]
   try split
   all_goals first|exact dr_turn x hK|(exfalso;omega)
theorem dr_tick {c:ConfV} {i:Int} {q:Nat} {r:RM} {n:Int} {w:World} {S:Nat->Prop} (hok:RMOk c.p r n) (hn:n<=1000000000) (h:(rDR c i q r).p w S):Calls Tryz.prog 80 #[.pointer (some ⟨q,0,none⟩)] w fun e w'=>
 e=.returned (.tuple #[.agg r.tick.2.1.cells.toArray,.int .i64 r.tick.2.2])/\Turn (rDR c i q r.tick.1) w w' S:=by
 obtain ⟨x,hx⟩:=rDR_p.1 h
 have hK:Know w w S [rBlk q (drL c i r x) 116] []:=Know.start1 hx (by simp)
 have hd:=hok.delay
 have hm:=hok.num
 have hg:=hok.going
 clear hok h hx
 obtain ⟨⟨⟨px,py⟩,pd⟩,load,epoch,num,under,stopping,delay⟩:=r
 obtain ⟨hd0,hd1⟩:0<=delay/\delay<=1000000:=hd
 obtain ⟨hm0,hm1⟩:0<=num/\num<=n:=hm
 generalize hv:RM.tick ⟨⟨⟨px,py⟩,pd⟩,load,epoch,num,under,stopping,delay⟩=v
 have HV:=Lib.hid hv
 clear hv
 cases under
 all_goals
  first
   |(rename_i g
     obtain ⟨⟨gk,gd,gn,⟨⟨gsx,gsy⟩,gsd⟩,⟨⟨gdx,gdy⟩,gdd⟩,ga,ge⟩,gt,gl,gc⟩:=g
     obtain ⟨hg0,hg1,hg2,hg3,_⟩:=hg _ rfl
     clear hg
     simp only at hg0 hg1 hg2 hg3
     cases stopping)
   |(clear hg;cases stopping)
 all_goals
  simp only [drL,ConfV.cells,Pose.cells,Cell.cells,Go.Sk.Move.cells,mvZ,List.cons_append,List.nil_append] at hK
  refine calls_al _ Tryz.func80 rfl Tryz.ntmps80 (Nat.le_of_ble_eq_true rfl) ?_
  simp only [parL,Nat.reduceAdd]
  repeat' (first
   |(refine sl ?_)
   |((with_reducible refine wl_at ?_);first|refine al ?_|refine Held.out ?_)
   |(with_reducible refine Two.mk (fun h=>?_) (fun h=>?_)<;>go_prune)
   |(with_reducible refine en ?_)
   |(with_reducible refine ret_at ?_)
   |(with_reducible refine fun (w':World) (b:Nat) hK'=>?_;clear hK;have hK:=hK';clear hK')
   |(with_reducible refine fun (w':World) hK'=>?_;clear hK;have hK:=hK';clear hK')
   |(with_reducible refine fun (b k:Nat) hat=>?_))
  all_goals
   refine al_retC1 hK rfl rfl (aggT (by decide)) (h:=?_)
   rw [<-HV.out]
   clear HV
   unfold RM.tick
   simp only [Bool.false_eq_true,if_false,if_true]
   repeat' split
   all_goals first|exact ⟨rfl,dr_turn x (hK.sub (.cons _ (.cons_cons _ .slnil)))⟩|exact ⟨rfl,dr_turn ⟨_,_,_,_⟩ (hK.sub (.cons _ (.cons _ (.cons_cons _ .slnil))))⟩|(exfalso;omega)
end Go.Proofs.YtngeeilkpnihmaaGreatDoor
