/- StacksBack. -/
import Derived.Test.YtngeeilkpnihmaaGreatDoorLwZ
set_option linter.all false
namespace Go.Proofs.YtngeeilkpnihmaaGreatDoor
open Go Go.Sk Go.RowKit
set_option maxRecDepth 100000
theorem start_ld {c:ConfP} (i:Nat):(SM.start c).ld.getD i 0=0:=by
 show (List.replicate c.robots.length (0:Int)).getD i 0=0
 rw [List.getD_eq_getElem?_getD,List.getElem?_replicate]
 split<;>rfl
theorem start_drop {c:ConfP} (i:Int) (x:Cell):(SM.start c).dropE c i x≠0:=by
 unfold SM.dropE dropE
 split
 · rw [if_pos (start_ld _)];omega
 · omega
theorem start_stack {c:ConfP} {x:Cell} (h:(SM.start c).f x≠[]): ∃ s∈c.stacks,s.at_=x/\(SM.start c).f x=s.bins:=by
 change binsIn c.stacks x≠[] at h
 show ∃ s∈c.stacks,s.at_=x/\binsIn c.stacks x=s.bins
 unfold binsIn at h ⊢
 cases hf:c.stacks.find? fun s=>decide (s.at_=x) with
 |none=>rw [hf] at h;exact absurd rfl h
 |some s=>exact ⟨s,List.mem_of_find?_eq_some hf,by simpa using List.find?_some hf,rfl⟩
theorem lift_zero {c:ConfP} {m:SM} {i:Int} {x:Cell} (h:m.liftE c i x=0):openB c x=true/\0<=i/\i<m.ld.length/\m.ld.getD i.toNat 0=0/\m.f x≠[]:=by
 unfold SM.liftE liftE at h
 by_cases hc:openB c x=true/\0<=i/\i<m.ld.length
 · rw [if_pos hc] at h
   split at h
   · omega
   · split at h
     · omega
     · rename_i h1 h2
       exact ⟨hc.1,hc.2.1,hc.2.2,Decidable.not_not.1 h1,h2⟩
 · rw [if_neg hc] at h;omega
theorem lift_at {c:ConfP} {m:SM} {i:Int} {x:Cell} (h:m.liftE c i x=0):m.lift c i x=⟨putF m.f x (m.f x).dropLast,m.ld.set i.toNat ((m.f x).getLastD 0)⟩:=by
 unfold SM.lift
 rw [if_pos h]
theorem lift_not {c:ConfP} {m:SM} {i:Int} {x:Cell} (h:m.liftE c i x≠0):m.lift c i x=m/\m.liftV c i x=0:=by
 unfold SM.lift SM.liftV
 rw [if_neg h,if_neg h]
 exact ⟨rfl,rfl⟩
theorem drop_not {c:ConfP} {m:SM} {i:Int} {x:Cell} (h:m.dropE c i x≠0):m.drop c i x=m:=by
 unfold SM.drop
 rw [if_neg h]
theorem drop_at {c:ConfP} {m:SM} {i:Int} {x:Cell} (h:m.dropE c i x=0):m.drop c i x=⟨putF m.f x (m.f x++[m.ld.getD i.toNat 0]),m.ld.set i.toNat 0⟩:=by
 unfold SM.drop
 rw [if_pos h]
theorem getLastD_mem {l:List Int} (h:l≠[]):l.getLastD 0∈l:=by
 rw [List.getLastD_eq_getLast?,List.getLast?_eq_some_getLast h]
 exact List.getLast_mem h
theorem snoc_last {l:List Int} (h:l≠[]):l.dropLast++[l.getLastD 0]=l:=by
 rw [List.getLastD_eq_getLast?,List.getLast?_eq_some_getLast h]
 exact List.dropLast_concat_getLast h
theorem start_bin {c:ConfP} (hm:MayP c) {x:Cell} {b:Int} (h:b∈(SM.start c).f x):1<=b/\b<=1000000000:=by
 obtain ⟨s,hs,_,he⟩:=start_stack (List.ne_nil_of_mem h)
 rw [he] at h
 exact Go.Sk.within_iff.1 (hm.bins b (List.mem_flatMap.2 ⟨s,hs,h⟩))
end Go.Proofs.YtngeeilkpnihmaaGreatDoor
