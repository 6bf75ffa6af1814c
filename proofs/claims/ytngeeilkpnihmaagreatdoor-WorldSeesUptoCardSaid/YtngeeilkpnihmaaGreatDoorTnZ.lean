/- StacksTurned. -/
import Derived.Test.YtngeeilkpnihmaaGreatDoorFlZ
import Derived.Test.YtngeeilkpnihmaaGreatDoorComZ
set_option linter.all false
namespace Go.Proofs.YtngeeilkpnihmaaGreatDoor
open Go Go.Sk Go.RowKit
set_option maxRecDepth 100000
theorem told_has {c:ConfP} {m:SM} (hm:MayP c) {x:Cell} (ho:openB c x=true):(⟨x,m.f x⟩:StackP)∈m.told c:=by
 have hi:=(openB_iff.1 ho).1
 have h1:=numOf_bd hi
 have ha:=area_eq hm
 obtain ⟨k,hk⟩: ∃ k:Nat,x.y*c.w+x.x=(k:Int):=⟨(x.y*c.w+x.x).toNat,by have:numOf c x=x.y*c.w+x.x:=rfl;omega⟩
 have he:cellAt c.w k=x:=cellAt_of (w:=c.w) (h:=c.h) hi hk
 unfold SM.told toldTo
 refine List.mem_filterMap.2 ⟨k,List.mem_range.2 (by have:numOf c x=x.y*c.w+x.x:=rfl;omega),?_⟩
 unfold tellOne
 rw [he,if_pos ho]
end Go.Proofs.YtngeeilkpnihmaaGreatDoor
