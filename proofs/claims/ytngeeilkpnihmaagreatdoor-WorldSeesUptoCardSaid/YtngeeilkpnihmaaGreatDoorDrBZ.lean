/- Texts of mine that belong together: Dr4, Dr5. -/
import Derived.Test.YtngeeilkpnihmaaGreatDoorDrAZ
set_option linter.all false
namespace Go.Proofs.YtngeeilkpnihmaaGreatDoor
open Go Go.Sk Go.RowKit
set_option maxRecDepth 100000
attribute [local irreducible] wpList Code.wp Calls
theorem dr_Shift {p:Pose} {d n:Int} {w:World} (hp:PoseWf p) (hd:0<=d/\d<=3) (hn:0<=n/\n<=16):Calls Tryz.prog 126 #[.agg p.cells.toArray,.int .i64 d,.int .i64 n] w (Ret (.tuple #[.agg (shiftP p d n).cells.toArray,.bool true]) w):=by
 have hK:Know w w none' [] []:=Know.start (L:=[]) w (by simp)
 have kS:=Lib.hid (fun (W:World)=>ref_shift (p:=p) (d:=d) (n:=n) (w:=W) hp hd hn)
 have kW1:=Lib.hid (fun (W:World)=>show Calls Tryz.prog 72 #[.int .i64 n,.int .i64 0,.int .i64 16] W (Ret (.bool true) W) by
  have:=ref_within n 0 16 W
  rwa [Go.Sk.within_iff.2 (by omega)] at this)
 have kW2:=Lib.hid (fun (W:World)=>show Calls Tryz.prog 72 #[.int .i64 d,.int .i64 0,.int .i64 3] W (Ret (.bool true) W) by
  have:=ref_within d 0 3 W
  rwa [Go.Sk.within_iff.2 (by omega)] at this)
 generalize shiftP p d n=Z at kS ⊢
 obtain ⟨⟨zx,zy⟩,zd⟩:=Z
 obtain ⟨⟨px,py⟩,pd⟩:=p
 clear hp
 simp only [Pose.cells,Cell.cells,List.cons_append,List.nil_append] at kS ⊢
 refine calls_al _ Tryz.func126 rfl Tryz.ntmps126 (Nat.le_of_ble_eq_true rfl) ?_
 simp only [parL,Nat.reduceAdd]
 repeat' (first
  |(go_at_call 72;(first
     |(with_reducible refine (hK.quiet (kW1.out _)).mono ?_;clear hK;rintro e w' ⟨rfl,hK⟩)
     |(with_reducible refine (hK.quiet (kW2.out _)).mono ?_;clear hK;rintro e w' ⟨rfl,hK⟩)))
  |(go_at_call 98;(refine (hK.quiet (kS.out _)).mono ?_;clear hK;rintro e w' ⟨rfl,hK⟩))
  |(refine sl ?_)
  |((with_reducible refine wl_at ?_);first|refine al ?_|refine Held.out ?_)
  |(with_reducible refine Two.mk (fun h=>?_) (fun h=>?_)<;>go_prune)
  |(with_reducible refine en ?_)
  |(with_reducible refine ret_at ?_)
  |(with_reducible refine fun (w':World) (b:Nat) hK'=>?_;clear hK;have hK:=hK';clear hK')
  |(with_reducible refine fun (w':World) hK'=>?_;clear hK;have hK:=hK';clear hK')
  |(with_reducible refine fun (b k:Nat) hat=>?_))
 refine al_retC1 hK rfl rfl (aggT (by decide)) (h:=?_)
 exact ⟨rfl,hK.mod⟩
set_option maxHeartbeats 2000000 in
theorem dr_stops {c:ConfV} {i:Int} {t:Tele} {q:Nat} {r:RM} {n:Int} {w:World} {S:Nat->Prop} (hok:RMOk c.p r n) (hko:(kinOf c.p).Ok) (h:Know w w S [rDR c i q r] [rConf c]):
 Calls Tryz.prog 97 #[.pointer (some ⟨q,0,none⟩),.agg t.cells.toArray] w (drEnd c i q (r.stops (kinOf c.p) i t.epoch) w S):=by
 obtain ⟨x,hK⟩:=Know.dr h
 clear h
 have kK:=Lib.hid (fun (W:World)=>ref_kin (c:=c) (w:=W))
 obtain ⟨⟨⟨px,py⟩,pd⟩,load,epoch,num,under,stopping,delay⟩:=r
 obtain ⟨tk,tr,te,tn,⟨mk,md,mn,⟨⟨sx,sy⟩,sd⟩,⟨⟨dx,dy⟩,dd⟩,ma,me⟩,tp,tl⟩:=t
 obtain ⟨hnum0,hnum1⟩:0<=num/\num<=n:=hok.num
 have he0:0<=epoch:=hok.epoch
 have hgo:=hok.going
 clear hok
 generalize hv:RM.stops (kinOf c.p) i ⟨⟨⟨px,py⟩,pd⟩,load,epoch,num,under,stopping,delay⟩ te=v
 have HV:=Lib.hid hv
 have kT:=Lib.hid (fun (W:World) (e' n':Int) (h:Has W (rBlk q (drL c i ⟨⟨⟨px,py⟩,pd⟩,load,e',n',under,stopping,delay⟩ x) 116))=>drL_tell h)
 simp only [Tele.cells,Pose.cells,Cell.cells,Go.Sk.Move.cells,List.cons_append,List.nil_append]
 cases under with
 |none=>
  clear hgo
  simp only [drL,ConfV.cells,Pose.cells,Cell.cells,Go.Sk.Move.cells,mvZ,List.cons_append,List.nil_append] at kT
  simp only [drL,ConfV.cells,Pose.cells,Cell.cells,Go.Sk.Move.cells,mvZ,List.cons_append,List.nil_append] at hK
  refine calls_al _ Tryz.func97 rfl Tryz.ntmps97 (Nat.le_of_ble_eq_true rfl) ?_
  simp only [parL,Nat.reduceAdd]
  repeat' (first
   |((with_reducible refine tx 1 hK ?_);clear hK;intro w' hK)
   |((with_reducible refine tx 3 hK ?_);clear hK;intro w' hK)
   |((with_reducible refine tx 15 hK ?_);clear hK;intro w' hK)
   |(go_at_call 82;(refine (kT.out _ _ _ hK.own).mono ?_;rintro e w' ⟨ad,rfl,hT⟩;replace hK:=hK.push1 hT;clear hT))
   |(refine sl ?_)
   |((with_reducible refine wl_at ?_);first|refine al ?_|refine Held.out ?_)
   |(with_reducible refine Two.mk (fun h=>?_) (fun h=>?_)<;>go_prune)
   |(with_reducible refine en ?_)
   |(with_reducible refine ret_at ?_)
   |(with_reducible refine fun (w':World) (b:Nat) hK'=>?_;clear hK;have hK:=hK';clear hK')
   |(with_reducible refine fun (w':World) hK'=>?_;clear hK;have hK:=hK';clear hK')
   |(with_reducible refine fun (b k:Nat) hat=>?_))
  all_goals
   refine al_ret2 rfl Vis.sl Vis.int ?_
   have hv:=HV.out
   clear HV kT
   unfold RM.stops at hv
   simp only [Option.isSome_none,Bool.false_eq_true,false_or] at hv
   subst hv
   repeat' split
   all_goals first
    |exact drEnd_nil x hK (.cons _ (.cons_cons _ .slnil))
    |exact drEnd_tell x hK (.cons_cons _ (.cons _ (.cons_cons _ .slnil)))
    |(exfalso;omega)
 |some g=>
  obtain ⟨⟨gk,gd,gn,⟨⟨gsx,gsy⟩,gsd⟩,⟨⟨gdx,gdy⟩,gdd⟩,ga,ge⟩,gt,gl,gc⟩:=g
  obtain ⟨g0,g1,g2,g3,g5,g6,g7⟩:=hgo _ rfl
  clear hgo kT
  simp only at g0 g1 g2 g3 g5 g6 g7
  have kS: ∀ W:World,_:=fun W=>k9_stop hko (n:=gn) (t:=gt) (w:=W)
  have hs:1<=gn->_:=fun h=>KinP.stop_is hko (n:=gn) (t:=gt) h
  generalize hsp:(kinOf c.p).stop gn gt=sp at kS hs
  obtain ⟨sn,sk⟩:=sp
  simp only at kS hs
  have kH: ∀ W:World,gk=1->gc=false->Calls Tryz.prog 126 #[.agg (Pose.cells ⟨⟨gsx,gsy⟩,gsd⟩).toArray,.int .i64 gd,.int .i64 sn] W (Ret (.tuple #[.agg (shiftP ⟨⟨gsx,gsy⟩,gsd⟩ gd sn).cells.toArray,.bool true]) W):=by
   intro W e e2
   obtain ⟨⟨a10,a11⟩,⟨a20,a21⟩,_,_⟩:=legal_run (g5 e2) e
   simp only at a10 a11 a20 a21
   have:=hs a10
   exact dr_Shift (wfp g6) ⟨a20,a21⟩ ⟨this.1,by omega⟩
  generalize hZ:shiftP ⟨⟨gsx,gsy⟩,gsd⟩ gd sn=Z at kH
  obtain ⟨⟨zx,zy⟩,zd⟩:=Z
  clear hs g5 g6 g7
  replace kS:=Lib.hid kS
  replace kH:=Lib.hid kH
  have HS:=Lib.hid hsp
  have HZ:=Lib.hid hZ
  clear hsp hZ hv
  simp only [Pose.cells,Cell.cells,List.cons_append,List.nil_append] at kH
  simp only [drL,ConfV.cells,Pose.cells,Cell.cells,Go.Sk.Move.cells,mvZ,List.cons_append,List.nil_append] at hK
  cases gc
  all_goals
   refine calls_al _ Tryz.func97 rfl Tryz.ntmps97 (Nat.le_of_ble_eq_true rfl) ?_
   simp only [parL,Nat.reduceAdd]
   repeat' (first
    |((with_reducible refine tx 1 hK ?_);clear hK;intro w' hK)
    |((with_reducible refine tx 3 hK ?_);clear hK;intro w' hK)
    |((with_reducible refine tx 15 hK ?_);clear hK;intro w' hK)
    |((with_reducible refine wp_region_stableK (id:=13) hK [9,13] _ (by kernel_rfl) (by kernel_rfl) (fun r h=>in_own h) (by kernel_rfl) ?_);clear hK;intro w' hK)
    |(with_reducible refine wpC_of ?_)
    |(with_reducible refine atEndC (hK.cls (fun r h=>in_own h)) ?_)
    |((with_reducible refine wpC_end' ?_);(refine wpC_nil ⟨by kernel_rfl,al_stays rfl rfl rfl rfl (scalT (by decide)) rfl (rest:=al_stays rfl rfl rfl rfl (scalT (by decide)) rfl (rest:=stays_nil)),?_⟩))
    |(go_at_call 100;(refine (hK.quiet (kK.out _)).mono ?_;clear hK;rintro e w' ⟨rfl,hK⟩))
    |(go_at_call 125;(refine (hK.quiet (kS.out _)).mono ?_;clear hK;rintro e w' ⟨rfl,hK⟩))
    |(go_at_call 126;(refine (hK.quiet (kH.out _ (by omega) rfl)).mono ?_;clear hK;rintro e w' ⟨rfl,hK⟩))
    |(refine sl ?_)
    |((with_reducible refine wl_at ?_);first|refine al ?_|refine Held.out ?_)
    |(with_reducible refine Two.mk (fun h=>?_) (fun h=>?_)<;>go_prune)
    |(with_reducible refine en ?_)
    |(with_reducible refine ret_at ?_)
    |(with_reducible refine fun (w':World) (b:Nat) hK'=>?_;clear hK;have hK:=hK';clear hK')
    |(with_reducible refine fun (w':World) hK'=>?_;clear hK;have hK:=hK';clear hK')
    |(with_reducible refine fun (b k:Nat) hat=>?_))
   all_goals
    refine al_ret2 rfl Vis.sl Vis.int ?_
    have hv:=HV.out
    have hsp:=HS.out
    have hZ:=HZ.out
    clear HV HS HZ kS kH kK
    unfold RM.stops Going.cuts at hv
    simp only [Option.isSome_some,true_or,or_true,if_true,hsp,hZ,and_true,and_false,if_false,reduceCtorEq] at hv
    subst hv
    repeat' split
    all_goals first
     |exact drEnd_nil x hK (.cons _ (.cons_cons _ .slnil))
     |(exfalso;omega)
end Go.Proofs.YtngeeilkpnihmaaGreatDoor
namespace Go.Proofs.YtngeeilkpnihmaaGreatDoor
open Go Go.Sk Go.RowKit
set_option maxRecDepth 100000
attribute [local irreducible] wpList Code.wp Calls
theorem hearsD {c:ConfV} {i:Int} {q k:Nat} {r:RM} {x:Junk} {v:RM×List Tele×Int} {f:FuncId} {args:Array Value} {w0 w:World} {F:Nat->Prop} {M L:List Res} (h:Know w0 w F M L) (hi:Ix M (rBlk q (drL c i r x) 116) k) (hs:rConf c∈L)
 (hc: ∀ S,Know w w S [rDR c i q r] [rConf c]->Calls Tryz.prog f args w (drEnd c i q v w S)):Calls Tryz.prog f args w fun e w'=> ∃ ad cap,e=.returned (.tuple #[.slice ad v.2.1.length cap,.int .i64 v.2.2])/\
   Know w0 w' F (rOw 58 elTele (.slice ad v.2.1.length cap) v.2.1::M.set k (rDR c i q v.1)) L:=by
 obtain ⟨A,B,rfl,hset⟩:=hi.hole
 have h1:Know w0 w F ([rBlk q (drL c i r x) 116]++(A++B)) L:=h.perm List.perm_middle
 obtain ⟨S1,hKS,back⟩:=Know.focus h1
 refine (hc S1 ((hKS.subL (by simpa using hs)).seen (r':=rDR c i q r) (fun _ _ hh=>rDR_p.2 ⟨x,hh⟩) .head)).mono ?_
 rintro e w' ⟨ad,cap,rfl,hT⟩
 refine ⟨ad,cap,rfl,?_⟩
 rw [hset]
 exact (back _ _ hT).perm (List.Perm.cons _ (show (rDR c i q v.1::(A++B)).Perm (A++rDR c i q v.1::B) from List.perm_middle.symm))
set_option maxHeartbeats 1000000 in
theorem dr_hear {c:ConfV} {i:Int} {t:Tele} {q:Nat} {r:RM} {n:Int} {w:World} {S:Nat->Prop} (hok:RMOk c.p r n) (hn:n<=1000000000) (hz:Sized c) (hko:(kinOf c.p).Ok) (h:Know w w S [rDR c i q r] [rConf c]):
 Calls Tryz.prog 75 #[.pointer (some ⟨q,0,none⟩),.agg t.cells.toArray] w (drEnd c i q (r.hearD c.p (kinOf c.p) i t) w S):=by
 obtain ⟨x,hK⟩:=Know.dr h
 clear h
 have kG:=Lib.hid (fun (W:World) (S:Nat->Prop) (h:Know W W S [rDR c i q r] [rConf c])=>dr_goes (t:=t) hok hn hz h)
 have kS:=Lib.hid (fun (W:World) (S:Nat->Prop) (h:Know W W S [rDR c i q r] [rConf c])=>dr_stops (t:=t) hok hko h)
 clear hok
 generalize hg:r.goesD c.p i t=vg at kG
 generalize hs:r.stops (kinOf c.p) i t.epoch=vs at kS
 generalize hv:r.hearD c.p (kinOf c.p) i t=v
 have HV:=Lib.hid hv
 have HG:=Lib.hid hg
 have HS:=Lib.hid hs
 clear hv hg hs
 obtain ⟨⟨⟨px,py⟩,pd⟩,load,epoch,num,under,stopping,delay⟩:=r
 obtain ⟨tk,tr,te,tn,⟨mk,md,mn,⟨⟨sx,sy⟩,sd⟩,⟨⟨dx,dy⟩,dd⟩,ma,me⟩,tp,tl⟩:=t
 simp only [Tele.cells,Pose.cells,Cell.cells,Go.Sk.Move.cells,List.cons_append,List.nil_append] at kG kS ⊢
 cases under
 all_goals
  try (rename_i g;obtain ⟨⟨gk,gd,gn,⟨⟨gsx,gsy⟩,gsd⟩,⟨⟨gdx,gdy⟩,gdd⟩,ga,ge⟩,gt,gl,gc⟩:=g)
  simp only [drL,ConfV.cells,Pose.cells,Cell.cells,Go.Sk.Move.cells,mvZ,List.cons_append,List.nil_append] at hK
  refine calls_al _ Tryz.func75 rfl Tryz.ntmps75 (Nat.le_of_ble_eq_true rfl) ?_
  simp only [parL,Nat.reduceAdd]
  repeat' (first
   |((with_reducible refine tx 1 hK ?_);clear hK;intro w' hK)
   |(go_at_call 96;(refine (hearsD (x:=x) hK (by repeat (first|exact Ix.head|apply Ix.tail)) (by simp) (fun S hS=>kG.out _ S hS)).mono ?_;clear hK;rintro e w' ⟨adt,cpt,rfl,hK⟩;simp only [z0,z1] at hK))
   |(go_at_call 97;(refine (hearsD (x:=x) hK (by repeat (first|exact Ix.head|apply Ix.tail)) (by simp) (fun S hS=>kS.out _ S hS)).mono ?_;clear hK;rintro e w' ⟨adt,cpt,rfl,hK⟩;simp only [z0,z1] at hK))
   |(refine sl ?_)
   |((with_reducible refine wl_at ?_);first|refine al ?_|refine Held.out ?_)
   |(with_reducible refine Two.mk (fun h=>?_) (fun h=>?_)<;>go_prune)
   |(with_reducible refine en ?_)
   |(with_reducible refine ret_at ?_)
   |(with_reducible refine fun (w':World) (b:Nat) hK'=>?_;clear hK;have hK:=hK';clear hK')
   |(with_reducible refine fun (w':World) hK'=>?_;clear hK;have hK:=hK';clear hK')
   |(with_reducible refine fun (b k:Nat) hat=>?_))
  all_goals
   refine al_ret2 rfl Vis.sl Vis.int ?_
   have hv:=HV.out
   clear HV kG kS
   unfold RM.hearD at hv
   rw [HG.out,HS.out] at hv
   clear HG HS
   simp only at hv
   subst hv
   repeat' split
   all_goals first
    |exact ⟨adt,cpt,rfl,(hK.sub (.cons_cons _ (.cons _ (.cons_cons _ .slnil)))).turns⟩
    |exact drEnd_nil x hK (.cons _ (.cons_cons _ .slnil))
    |(exfalso;omega)
end Go.Proofs.YtngeeilkpnihmaaGreatDoor
