/- Chapter 8's own answer: At, Height, Top, Load. -/
import Derived.Test.YtngeeilkpnihmaaGreatDoorR8cZ
set_option linter.all false
namespace Go.Proofs.YtngeeilkpnihmaaGreatDoor
open Go Go.Sk Go.RowKit
set_option maxRecDepth 100000
set_option maxHeartbeats 2000000 in
theorem rf_load {c:ConfV} {p:Nat} {m:SM} {i:Int} {w:World} (h:Has w (rREF c p m)):Calls Tryz.prog 103 #[.pointer (some ⟨p,0,none⟩),.int .i64 i] w (Ret (.int .i64 (m.load i)) w):=by
 obtain ⟨v,rfl,hv,hg⟩:=Has.ref h
 have hK:Know w w none' [] (rRf c v):=Know.start (L:=rRf c v) w hg
 simp only [rRf] at hK
 have hld:=hv.loads
 unfold SM.load
 rw [<-hld]
 clear h hv hg hld
 by_cases hi0:i<0
 · rw [if_neg (by omega)]
   go_enter Tryz.func103,Tryz.ntmps103
   go_wp2_with (first
    |go_big_skip
    |go_big_skip
    |((with_reducible refine wl ?_);refine ldQ ?_)
    |(with_reducible refine en ?_))
   go_ret
   exact ⟨rfl,hK.mod⟩
 · obtain ⟨k,rfl⟩: ∃ k:Nat,i=(k:Int):=⟨i.toNat,by omega⟩
   by_cases h1:k<v.loads.l.length
   · have hu:v.loads.l[k]?=some (v.loads.l.getD k 0):=by rw [List.getD_eq_getElem?_getD,List.getElem?_eq_getElem (by omega)];rfl
     rw [if_pos (by omega),Int.toNat_natCast]
     generalize v.loads.l.getD k 0=z at hu ⊢
     have HU:=Lib.hid hu
     have e1:decide (v.loads.l.length<=k)=false:=decide_eq_false (by omega)
     have e2:decide ((v.loads.l.length:Int)<=(k:Int))=false:=decide_eq_false (by omega)
     clear hu
     go_enter Tryz.func103,Tryz.ntmps103
     go_wp2_with (first
      |((with_reducible refine wt 21 ?_);(refine wl_ixK (xs:=v.loads.l) (u:=z) hK rfl rfl rfl rfl intTy.und intTy.size (hu:=HU) (h:=?_);intro b21 k21 hat21))
      |go_big_skip
      |go_big_skip
      |((with_reducible refine wl ?_);refine ldQ ?_)
      |(with_reducible refine en ?_))
     go_ret
     exact ⟨rfl,hK.mod⟩
   · rw [if_neg (by omega)]
     have e1:decide (v.loads.l.length<=k)=true:=decide_eq_true (by omega)
     have e2:decide ((v.loads.l.length:Int)<=(k:Int))=true:=decide_eq_true (by omega)
     go_enter Tryz.func103,Tryz.ntmps103
     go_wp2_with (first
      |go_big_skip
      |go_big_skip
      |((with_reducible refine wl ?_);refine ldQ ?_)
      |(with_reducible refine en ?_))
     go_ret
     exact ⟨rfl,hK.mod⟩
end Go.Proofs.YtngeeilkpnihmaaGreatDoor
