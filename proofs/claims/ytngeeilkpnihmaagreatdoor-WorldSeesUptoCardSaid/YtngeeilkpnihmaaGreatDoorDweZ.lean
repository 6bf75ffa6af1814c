/- The laws' go-aheads for a world: fits. -/
import Derived.Test.YtngeeilkpnihmaaGreatDoorDwAZ
import Derived.Test.YtngeeilkpnihmaaGreatDoorRgmZ
import Derived.Test.YtngeeilkpnihmaaGreatDoorRgCZ
import Derived.Test.YtngeeilkpnihmaaGreatDoorComZ
import Derived.Test.YtngeeilkpnihmaaGreatDoorEngZ
set_option linter.all false
namespace Go.Proofs.YtngeeilkpnihmaaGreatDoor
open Go Go.Sk Go.RowKit
set_option maxRecDepth 100000
attribute [local irreducible] wpList Code.wp Calls
def fitsT (c:ConfP) (m:WM) (i:Nat) (r:RM) (n:Int):Tele:=
 if n % 8<2 then ⟨1,i,r.epoch,r.num+1,⟨3+n % 8,0,0,r.pose,r.pose,m.now,m.now+c.hoist⟩,poseO,0⟩
 else match (movesP c r.pose)[(IntKind.i64.wrap (n.tdiv 8) % ((movesP c r.pose).length:Int)).toNat]? with
  |some u=>⟨1,i,r.epoch,r.num+1,{u with at_:=m.now,fin:=m.now+lastsP c u},poseO,0⟩
  |none=>⟨1,i,r.epoch,r.num+1,mvZ,poseO,0⟩
theorem legalP_nE {c:ConfP} {m:Go.Sk.Move} (h:legalP c m=true):m.n<=16:=by
 unfold legalP at h
 simp only [Bool.and_eq_true] at h
 have h:=h.2
 split at h
 · simp only [Bool.and_eq_true,decide_eq_true_eq] at h;omega
 · split at h
   · simp only [Bool.and_eq_true,decide_eq_true_eq] at h;omega
   · split at h
     · simp only [Bool.and_eq_true,decide_eq_true_eq] at h;omega
     · cases h
theorem runsP_is {c:ConfP} {p:Pose} {d:Nat}: ∀ (f j:Nat) (m:Go.Sk.Move),m∈runsP c p d f j->legalP c m=true
 |0,_,_,h=>by cases h
 |f+1,j,m,h=>by
  unfold runsP at h
  split at h
  · rename_i hl
    rcases List.mem_cons.1 h with rfl|h
    · exact hl
    · exact runsP_is f (j+1) m h
  · cases h
theorem dirsP_is {c:ConfP} {p:Pose}: ∀ (f d:Nat) (m:Go.Sk.Move),m∈dirsP c p f d->legalP c m=true
 |0,_,_,h=>by cases h
 |f+1,d,m,h=>by
  unfold dirsP at h
  rcases List.mem_append.1 h with h|h
  · exact runsP_is _ _ _ h
  · exact dirsP_is f (d+1) m h
theorem movesP_is {c:ConfP} {p:Pose} {m:Go.Sk.Move} (h:m∈movesP c p):legalP c m=true:=by
 unfold movesP at h
 split at h
 · rcases List.mem_append.1 h with h|h
   · exact dirsP_is _ _ _ h
   · split at h
     · rename_i hl
       rw [List.mem_singleton.1 h]
       exact hl
     · cases h
 · cases h
theorem lasts_bd {c:ConfP} {m:Go.Sk.Move} (hm:MayP c) (h:legalP c m=true):0<=lastsP c m/\lastsP c m<=16000:=by
 have hn:=nums_iff.1 hm.nums
 have h1:=hn.turn
 have h2:=hn.hoist
 have hk:=kinOf_ok hm
 have:=KinP.prof_len hk m.n
 have:=legalP_nE h
 unfold lastsP KinP.time
 repeat' split
 all_goals omega
theorem Sep.get {w:World}: ∀ {M:List Res} {U:Nat->Prop},Sep w M U-> ∀ r∈M,Has w r
 |[],_,_,_,h=>by cases h
 |r::_,_,⟨S,_,h1,h2,_,_⟩,x,h=>by
  rcases List.mem_cons.1 h with rfl|h
  · exact ⟨S,h1⟩
  · exact Sep.get h2 x h
theorem Has.dwd {c:ConfV} {wp:Nat} {m:WM} {w:World} (h:Has w (rDW c wp m)): ∃ sp ra rc ps sa sc,ps.length=m.rs.length/\ ∀ r∈rDd c wp sp ra rc ps sa sc m,Has w r:=by
 obtain ⟨S,h⟩:=h
 obtain ⟨sp,ra,rc,ps,sa,sc,hl,k⟩:=rDW_p.1 h
 exact ⟨sp,ra,rc,ps,sa,sc,hl,fun r hr=>Sep.get k r hr⟩
set_option maxHeartbeats 4000000 in
theorem dw_fits {c:ConfV} {wp i:Nat} {m:WM} {r:RM} {n k:Int} {w:World} (hm:MayP c.p) (hz:Sized c) (hr:m.rs[i]?=some r) (hok:RMOk c.p r k) (hk:k<=1000000000) (hnow:0<=m.now/\m.now<=1000000000) (hc:Has w (rConf c)) (h:Has w (rDW c wp m)):
 Calls Tryz.prog 57 #[.agg c.cells.toArray,.pointer (some ⟨wp,0,none⟩),.int .i64 (i:Int),.int .i64 n] w fun e w'=>e=.returned (.agg (fitsT c.p m i r n).cells.toArray)/\Mod none' w w':=by
 obtain ⟨sp,ra,rc,ps,sa,sc,hlen,hD⟩:=Has.dwd h
 have hil:i<m.rs.length:=(List.getElem?_eq_some_iff.1 hr).1
 obtain ⟨p,hp⟩: ∃ p,ps[i]?=some p:=⟨_,List.getElem?_eq_getElem (by rw [hlen];exact hil)⟩
 obtain ⟨x,hx⟩:=Has.dr (Has.robD (c:=c) (ps:=ps) (hD _ (by simp [rDd])) hr hp)
 have hK:Know w w none' [] [rBlk p (drL c i r x) 116,rBlk wp (ddCells c sp ra ps.length rc m.now sa m.l.length sc) 110,rOw 111 elPtr (.slice ra ps.length rc) ps,rConf c]:=Know.start w (by
  intro y hy
  simp only [List.mem_cons,List.not_mem_nil,or_false] at hy
  rcases hy with rfl|rfl|rfl|rfl
  · exact hx
  · exact hD _ (by simp [rDd])
  · exact hD _ (by simp [rDd])
  · exact hc)
 have HP:=Lib.hid hp
 have kM:=fun (W:World) (h:Has W (rConf c))=>ref_movesX (p:=r.pose) h hz ⟨hok.pose.x,hok.pose.y⟩
 have kL:=Lib.hid (fun (W:World) (mv:Go.Sk.Move)=>ref_lasts (c:=c) (m:=mv) (w:=W) (kinOf_ok hm))
 have kP1:=Lib.hid (fun (W:World)=>show Calls Tryz.prog 15 #[.int .i64 n,.int .i64 8] W (Ret (.int .i64 (n % 8)) W) from (Place_calls n 8 W (by omega) (by omega)).mono fun e w' h=>⟨h.1,by rw [h.2];exact Mod.refl _ _⟩)
 have hnum:=hok.num
 have hn:1<=c.hoist/\c.hoist<=1000:=(nums_iff.1 hm.nums).hoist
 have hlb:=fun (u:Go.Sk.Move) (hu:u∈movesP c.p r.pose)=>lasts_bd hm (movesP_is hu)
 generalize hv:fitsT c.p m i r n=v
 unfold fitsT at hv
 generalize movesP c.p r.pose=L at kM hlb hv
 generalize m.now=now at hK hv hnow
 obtain ⟨now0,now1⟩:=hnow
 clear hok hr hx hD h hc hp hlen hil
 obtain ⟨⟨⟨px,py⟩,pd⟩,load,epoch,num,under,stopping,delay⟩:=r
 simp only at hnum hv kM
 obtain ⟨num0,num1⟩:=hnum
 obtain ⟨hh0,hh1⟩:=hn
 rw [show c.p.hoist=c.hoist from rfl] at hv
 replace kM:=Lib.hid kM
 by_cases hL:L.length=0
 · have hv':(if n % 8<2 then (⟨1,i,epoch,num+1,⟨3+n % 8,0,0,⟨⟨px,py⟩,pd⟩,⟨⟨px,py⟩,pd⟩,now,now+c.hoist⟩,poseO,0⟩:Tele) else ⟨1,i,epoch,num+1,mvZ,poseO,0⟩)=v:=by
    rw [<-hv,List.length_eq_zero_iff.1 hL]
    rfl
   have HV:=Lib.hid hv'
   clear hv hv' hlb
   cases under
   all_goals
    try (rename_i g;obtain ⟨⟨gk,gd,gn,⟨⟨gsx,gsy⟩,gsd⟩,⟨⟨gdx,gdy⟩,gdd⟩,ga,ge⟩,gt,gl,gc⟩:=g)
    simp only [drL,ddCells,ConfV.cells,Pose.cells,Cell.cells,Go.Sk.Move.cells,mvZ,List.cons_append,List.nil_append] at hK
    refine calls_al _ Tryz.func57 rfl Tryz.ntmps57 (Nat.le_of_ble_eq_true rfl) ?_
    simp only [parL,Nat.reduceAdd]
    repeat' (first
     |((with_reducible refine tx 2 hK ?_);clear hK;intro w' hK)
     |((with_reducible refine tx 5 hK ?_);clear hK;intro w' hK)
     |((with_reducible refine tx 7 hK ?_);clear hK;intro w' hK)
     |((with_reducible refine wp_region_stableK (id:=12) hK [3] _ (by kernel_rfl) (by kernel_rfl) (fun r h=>in_lent h) (by kernel_rfl) ?_);clear hK;intro w' hK)
     |(with_reducible refine wpC_of ?_)
     |(with_reducible refine atEndC (hK.cls (fun r h=>in_lent h)) ?_)
     |((with_reducible refine wpC_end' ?_);(refine wpC_nil ⟨by kernel_rfl,al_stays rfl rfl rfl rfl (scalT (by decide)) rfl (rest:=stays_nil),?_⟩))
     |((with_reducible refine wl_at (o:=⟨_,.indexAddr 108 _ _,_,_,_,_⟩) ?_);(refine al_ix (i:=i) (u:=p) (xs:=ps) (E:=elPtr) hK rfl rfl rfl rfl rfl (by right;repeat (first|exact MemS.ow|apply MemS.tail)) (sizT (by decide)) HP.out ?_))
     |(go_at_call 15;(refine (hK.quiet (kP1.out _)).mono ?_;clear hK;rintro e w' ⟨rfl,hK⟩))
     |(go_at_call 77;(refine (kM.out _ hK.lent).mono ?_;rintro e w' ⟨adm,nm,cm,rfl,rfl,h65,hT⟩;replace hK:=hK.push1 hT;clear hT))
     |(refine sl ?_)
     |((with_reducible refine wl_at ?_);first|refine al ?_|refine Held.out ?_)
     |(with_reducible refine Two.mk (fun h=>?_) (fun h=>?_)<;>go_prune)
     |(with_reducible refine en ?_)
     |(with_reducible refine ret_at ?_)
     |(with_reducible refine fun (w':World) (b:Nat) hK'=>?_;clear hK;have hK:=hK';clear hK')
     |(with_reducible refine fun (w':World) hK'=>?_;clear hK;have hK:=hK';clear hK')
     |(with_reducible refine fun (b k:Nat) hat=>?_))
    all_goals
     refine al_retC hK rfl rfl (aggT (by decide)) (h:=?_)
     rw [<-HV.out]
     first|(rw [if_pos (by omega)];exact ⟨rfl,hK.mod⟩)|(rw [if_neg (by omega)];exact ⟨rfl,hK.mod⟩)
 · obtain ⟨I,hI,hIl⟩: ∃ I:Nat,IntKind.i64.wrap (n.tdiv 8) % (L.length:Int)=(I:Int)/\I<L.length:=by
    have h0:=Int.emod_nonneg (IntKind.i64.wrap (n.tdiv 8)) (show (L.length:Int)≠0 by omega)
    have h1:=Int.emod_lt_of_pos (IntKind.i64.wrap (n.tdiv 8)) (show (0:Int)<L.length by omega)
    exact ⟨(IntKind.i64.wrap (n.tdiv 8) % (L.length:Int)).toNat,by omega,by omega⟩
   obtain ⟨u,hu⟩: ∃ u,L[I]?=some u:=⟨_,List.getElem?_eq_getElem hIl⟩
   have hlu:=hlb u (List.mem_of_getElem? hu)
   have kP2:=fun (W:World) (h65:L.length<=65)=>show Calls Tryz.prog 15 #[.int .i64 (IntKind.i64.wrap (n.tdiv 8)),.int .i64 (L.length:Int)] W (Ret (.int .i64 (I:Int)) W) from (Place_calls _ (L.length:Int) W (by omega) (by omega)).mono fun e w' h=>⟨by rw [h.1,hI],by rw [h.2];exact Mod.refl _ _⟩
   rw [hI,Int.toNat_natCast,hu] at hv
   simp only at hv
   generalize hlas:lastsP c.p u=las at hv hlu
   have kL2:=Lib.hid (fun (W:World)=>show Calls Tryz.prog 78 #[.agg c.cells.toArray,.agg (Go.Sk.Move.cells {u with at_:=now}).toArray] W (Ret (.int .i64 las) W) by have:=kL.out W {u with at_:=now};rw [show lastsP c.p {u with at_:=now}=lastsP c.p u from rfl,hlas] at this;exact this)
   obtain ⟨las0,las1⟩:=hlu
   have HV:=Lib.hid hv
   have HU:=Lib.hid hu
   replace kP2:=Lib.hid kP2
   clear hlb hI hu hv hlas kL
   obtain ⟨uk,ud,un,⟨⟨usx,usy⟩,usd⟩,⟨⟨udx,udy⟩,udd⟩,ua,ue⟩:=u
   cases under
   all_goals
    try (rename_i g;obtain ⟨⟨gk,gd,gn,⟨⟨gsx,gsy⟩,gsd⟩,⟨⟨gdx,gdy⟩,gdd⟩,ga,ge⟩,gt,gl,gc⟩:=g)
    simp only [drL,ddCells,ConfV.cells,Pose.cells,Cell.cells,Go.Sk.Move.cells,mvZ,List.cons_append,List.nil_append] at hK
    refine calls_al _ Tryz.func57 rfl Tryz.ntmps57 (Nat.le_of_ble_eq_true rfl) ?_
    simp only [parL,Nat.reduceAdd]
    repeat' (first
     |((with_reducible refine tx 2 hK ?_);clear hK;intro w' hK)
     |((with_reducible refine tx 5 hK ?_);clear hK;intro w' hK)
     |((with_reducible refine tx 7 hK ?_);clear hK;intro w' hK)
     |((with_reducible refine wp_region_stableK (id:=12) hK [3] _ (by kernel_rfl) (by kernel_rfl) (fun r h=>in_lent h) (by kernel_rfl) ?_);clear hK;intro w' hK)
     |(with_reducible refine wpC_of ?_)
     |(with_reducible refine atEndC (hK.cls (fun r h=>in_lent h)) ?_)
     |((with_reducible refine wpC_end' ?_);(refine wpC_nil ⟨by kernel_rfl,al_stays rfl rfl rfl rfl (scalT (by decide)) rfl (rest:=stays_nil),?_⟩))
     |((with_reducible refine wl_at (o:=⟨_,.indexAddr 108 _ _,_,_,_,_⟩) ?_);(refine al_ix (i:=i) (u:=p) (xs:=ps) (E:=elPtr) hK rfl rfl rfl rfl rfl (by right;repeat (first|exact MemS.ow|apply MemS.tail)) (sizT (by decide)) HP.out ?_))
     |((with_reducible refine wl_at (o:=⟨_,.indexAddr 139 _ _,_,_,_,_⟩) ?_);(refine al_ix (i:=I) (u:=⟨uk,ud,un,⟨⟨usx,usy⟩,usd⟩,⟨⟨udx,udy⟩,udd⟩,ua,ue⟩) (xs:=L) (E:=elMove) hK rfl rfl rfl rfl rfl (by left;repeat (first|exact MemS.ow|apply MemS.tail)) (aggS (by decide)) HU.out ?_;intro b k hat;replace hat:At _ _ _ (Go.Sk.Move.cells _):=hat;simp only [Go.Sk.Move.cells,Pose.cells,Cell.cells,List.cons_append,List.nil_append] at hat))
     |(go_at_call 15;((first|refine (hK.quiet (kP1.out _)).mono ?_|refine (hK.quiet (kP2.out _ h65)).mono ?_);clear hK;rintro e w' ⟨rfl,hK⟩))
     |(go_at_call 77;(refine (kM.out _ hK.lent).mono ?_;rintro e w' ⟨adm,nm,cm,rfl,rfl,h65,hT⟩;replace hK:=hK.push1 hT;clear hT))
     |(go_at_call 78;(refine (hK.quiet (kL2.out _)).mono ?_;clear hK;rintro e w' ⟨rfl,hK⟩))
     |((with_reducible refine wl_at (o:=⟨_,.binOp .quo _ _ _ _,_,_,_,_⟩) ?_);(refine al_quo rfl rfl rfl rfl rfl rfl ?_))
     |(refine sl ?_)
     |((with_reducible refine wl_at ?_);first|refine al ?_|refine Held.out ?_)
     |(with_reducible refine Two.mk (fun h=>?_) (fun h=>?_)<;>go_prune)
     |(with_reducible refine en ?_)
     |(with_reducible refine ret_at ?_)
     |(with_reducible refine fun (w':World) (b:Nat) hK'=>?_;clear hK;have hK:=hK';clear hK')
     |(with_reducible refine fun (w':World) hK'=>?_;clear hK;have hK:=hK';clear hK')
     |(with_reducible refine fun (b k:Nat) hat=>?_))
    all_goals
     refine al_retC hK rfl rfl (aggT (by decide)) (h:=?_)
     rw [<-HV.out]
     first|(rw [if_pos (by omega)];exact ⟨rfl,hK.mod⟩)|(rw [if_neg (by omega)];exact ⟨rfl,hK.mod⟩)
end Go.Proofs.YtngeeilkpnihmaaGreatDoor
