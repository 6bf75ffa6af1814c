/- StacksFull. -/
import Derived.Test.YtngeeilkpnihmaaGreatDoorBkZ
import Derived.Deep.LoopGhost
set_option linter.all false
namespace Go.Proofs.YtngeeilkpnihmaaGreatDoor
open Go Go.Sk Go.RowKit
set_option maxRecDepth 100000
theorem port_iff {c:ConfP} {x:Cell}:0<=portOf c x ↔ x∈c.ports:=by
 unfold portOf
 split
 · rename_i h;exact ⟨fun _=>h,fun _=>by omega⟩
 · rename_i h;exact ⟨fun h=>by omega,fun h'=>absurd h' h⟩
theorem told_open {c:ConfP} {m:SM}: ∀ s∈m.told c,openB c s.at_=true/\s.bins=m.f s.at_:=by
 intro s hs
 unfold SM.told toldTo at hs
 obtain ⟨k,_,hk⟩:=List.mem_filterMap.1 hs
 unfold tellOne at hk
 split at hk
 · rename_i ho
   injection hk with hk
   subst hk
   exact ⟨ho,rfl⟩
 · cases hk
theorem height_open {c:ConfP} {m:SM} {x:Cell} (h:openB c x=true):m.height c x=((m.f x).length:Int):=by
 unfold SM.height
 rw [h]
 rfl
end Go.Proofs.YtngeeilkpnihmaaGreatDoor
