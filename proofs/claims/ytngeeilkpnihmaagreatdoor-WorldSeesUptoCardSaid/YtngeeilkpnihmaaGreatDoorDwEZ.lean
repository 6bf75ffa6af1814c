/- Texts of mine that belong together: Dwg, Dwh, Dwi. -/
import Derived.Test.YtngeeilkpnihmaaGreatDoorDwCZ
import Derived.Test.YtngeeilkpnihmaaGreatDoorDweZ
import Derived.Test.YtngeeilkpnihmaaGreatDoorDwBZ
import Derived.Test.YtngeeilkpnihmaaGreatDoorSkCalmZ
import Derived.Test.YtngeeilkpnihmaaGreatDoorDwDZ
import Derived.Test.YtngeeilkpnihmaaGreatDoorWdcZ
set_option linter.all false
namespace Go.Proofs.YtngeeilkpnihmaaGreatDoor
open Go Go.Sk Go.RowKit
set_option maxRecDepth 100000
attribute [local irreducible] wpList Code.wp Calls
def bothT (c:ConfP):Nat->WM->WM->WM×WM
 |0,a,d=>(a,d)
 |k+1,a,d=>if (a.tick c).2=(d.tick c).2 then bothT c k (a.tick c).1 (d.tick c).1 else ((a.tick c).1,(d.tick c).1)
def hearB (c:ConfP) (a d:WM) (t:Tele):WM×WM:=((a.hear c t).1,(d.hearD c t).1)
def stopT (i:Nat) (r:RM):Tele:=⟨2,i,IntKind.i64.wrap (r.epoch+1),0,mvZ,poseO,0⟩
def doM (c:ConfP) (a d:WM) (x:Op19):WM×WM:=
 if x.kind % 9=0\/x.kind % 9=1 then hearB c a d x.t
 else if x.kind % 9=2\/x.kind % 9=3 then
  match d.rs[(x.robot % (d.rs.length:Int)).toNat]? with
  |some r=>hearB c a d (fitsT c d (x.robot % (d.rs.length:Int)).toNat r x.n)
  |none=>(a,d)
 else if x.kind % 9=7 then (a.delay x.robot x.n,d.delay x.robot x.n)
 else if x.kind % 9=8 then
  match d.rs[(x.robot % (d.rs.length:Int)).toNat]? with
  |some r=>hearB c a d (stopT (x.robot % (d.rs.length:Int)).toNat r)
  |none=>(a,d)
 else bothT c (1+(x.n % 25).toNat) a d
theorem bothT_inv {c:ConfP} {N:Nat} (hN:N<=8): ∀ (k j:Nat) (a d:WM),WInv c N j a->WInv c N j d->WInv c N (j+k) (bothT c k a d).1/\WInv c N (j+k) (bothT c k a d).2
 |0,_,_,_,h1,h2=>⟨h1,h2⟩
 |k+1,j,a,d,h1,h2=>by
  unfold bothT
  split
  · have:=bothT_inv hN k (j+1) _ _ (WInv.tick hN h1).1 (WInv.tick hN h2).1
    rw [show j+(k+1)=j+1+k by omega]
    exact this
  · exact ⟨(WInv.tick hN h1).1.more (by omega),(WInv.tick hN h2).1.more (by omega)⟩
theorem doM_inv {c:ConfP} {N j:Nat} (hm:MayP c) (hN:N<=8) {a d:WM} (x:Op19) (h1:WInv c N j a) (h2:WInv c N j d):WInv c N (j+25) (doM c a d x).1/\WInv c N (j+25) (doM c a d x).2:=by
 have hh: ∀ t,WInv c N (j+25) (hearB c a d t).1/\WInv c N (j+25) (hearB c a d t).2:=fun t=>⟨(h1.hear hm t).more (by omega),(h2.hearD hm t).more (by omega)⟩
 unfold doM
 split
 · exact hh _
 · split
   · split
     · exact hh _
     · exact ⟨h1.more (by omega),h2.more (by omega)⟩
   · split
     · exact ⟨(h1.delay _ _).more (by omega),(h2.delay _ _).more (by omega)⟩
     · split
       · split
         · exact hh _
         · exact ⟨h1.more (by omega),h2.more (by omega)⟩
       · have:=bothT_inv hN (1+(x.n % 25).toNat) j a d h1 h2
         exact ⟨this.1.more (by omega),this.2.more (by omega)⟩
end Go.Proofs.YtngeeilkpnihmaaGreatDoor
namespace Go.Proofs.YtngeeilkpnihmaaGreatDoor
open Go Go.Sk Go.RowKit
set_option maxRecDepth 100000
attribute [local irreducible] wpList Code.wp Calls
theorem Has.drEp {c:ConfV} {i:Int} {q:Nat} {r:RM} {w:World} (h:Has w (rDR c i q r)):At w q 21 [.int .i64 r.epoch]:=by
 obtain ⟨x,h⟩:=Has.dr h
 exact part_at h.blk (by unfold drL;cases r.under<;>rfl)
theorem fits_n {c:ConfP} {m:WM} {i:Nat} {r:RM} {n:Int}:(fitsT c m i r n).move.n<=9223372036854775807:=by
 unfold fitsT
 split
 · show (0:Int)<=_;omega
 · split
   · rename_i u hu
     have:=legalP_nE (movesP_is (List.mem_of_getElem? hu))
     show u.n<=_
     omega
   · show (0:Int)<=_;omega
set_option maxHeartbeats 8000000 in
theorem do_calls {c:ConfV} {wp q N k:Nat} {a d:WM} {x:Op19} {w:World} {S:Nat->Prop} (hm:MayP c.p) (hz:Sized c) (hx:x.t.move.n<=9223372036854775807) (ha:WInv c.p N k a) (hd:WInv c.p N k d) (hN:c.robots.l.length=N) (hk:k<=2000) (h:Know w w S [rWLD c.p wp a,rDW c q d] [rConf c,stepsR]):
 Calls Tryz.prog 28 #[.agg c.cells.toArray,.pointer (some ⟨wp,0,none⟩),.pointer (some ⟨q,0,none⟩),.agg x.cells.toArray] w fun e w'=>(∃ b,e=.returned (.bool b))/\Turns [rWLD c.p wp (doM c.p a d x).1,rDW c q (doM c.p a d x).2] w w' S:=by
 have hN8:N<=8:=by rw [<-hN];exact hm.robots8
 have hK:=h
 clear h
 have kA:=Lib.hid (fun (W:World) (S':Nat->Prop) (t:Tele) (ht:t.move.n<=9223372036854775807) (h:Know W W S' [rWLD c.p wp a] [stepsR])=>w_hear (v:=a.hear c.p t) ha.ok (by omega) ht (by have:=ha.seen;omega) (by have:=ha.len;omega) rfl h)
 have kD:=Lib.hid (fun (W:World) (S':Nat->Prop) (t:Tele) (h:Know W W S' [rDW c q d] [rConf c])=>dw_hear (t:=t) hd.ok (by omega) hz (kinOf_ok hm) (by have:=hd.seen;omega) (by have:=hd.len;omega) h)
 have kST:=Lib.hid (fun (W:World) (ad1 ad2:Option Addr) (c1 c2:Nat) (l1 l2:List Tele) (h1:Rd W elTele (.slice ad1 l1.length c1) l1) (h2:Rd W elTele (.slice ad2 l2.length c2) l2) (hl:l1.length<=1000000)=>sameT h1 h2 hl)
 have hlA: ∀ t,(a.hear c.p t).2.length<=1000000:=fun t=>by have:=hear_len c.p a t;omega
 have kDe:=Lib.hid (fun (W:World) (S':Nat->Prop) (i e:Int) (L:List Res) (h:Know W W S' [rWLD c.p wp a] L)=>w_delay (i:=i) (d:=e) ha.ok (by have:=ha.len;omega) (Know.subL h (L':=[]) (by simp)))
 have kDd:=Lib.hid (fun (W:World) (S':Nat->Prop) (i e:Int) (L:List Res) (h:Know W W S' [rDW c q d] L)=>dw_delay (j:=i) (d:=e) hd.ok (by have:=hd.len;omega) (Know.subL h (L':=[]) (by simp)))
 have kTa:=Lib.hid (fun (m:WM) (j:Nat) (hj:j<=3000) (hi:WInv c.p N j m) (W:World) (S':Nat->Prop) (h:Know W W S' [rWLD c.p wp m] [])=>w_tick hi.ok (by omega) (by have:=hi.seen;omega) (by have:=hi.len;omega) ⟨hi.now.1,by have:=hi.now.2;omega⟩ h)
 have kTd:=Lib.hid (fun (m:WM) (j:Nat) (hj:j<=3000) (hi:WInv c.p N j m) (W:World) (S':Nat->Prop) (h:Know W W S' [rDW c q m] [rConf c])=>dw_tick hi.ok (by omega) hz (by have:=hi.seen;omega) (by have:=hi.len;omega) ⟨hi.now.1,by have:=hi.now.2;omega⟩ h)
 obtain ⟨xk,xr,xn,xt⟩:=x
 have kP9:=Lib.hid (fun (W:World)=>show Calls Tryz.prog 15 #[.int .i64 xk,.int .i64 9] W (Ret (.int .i64 (xk % 9)) W) from (Place_calls xk 9 W (by omega) (by omega)).mono fun e w' h=>⟨h.1,by rw [h.2];exact Mod.refl _ _⟩)
 have kP25:=Lib.hid (fun (W:World)=>show Calls Tryz.prog 15 #[.int .i64 xn,.int .i64 25] W (Ret (.int .i64 (xn % 25)) W) from (Place_calls xn 25 W (by omega) (by omega)).mono fun e w' h=>⟨h.1,by rw [h.2];exact Mod.refl _ _⟩)
 have hdl:=hd.len
 have E0:=Lib.hid (show xk % 9=0\/xk % 9=1->doM c.p a d ⟨xk,xr,xn,xt⟩=hearB c.p a d xt from fun h=>by unfold doM;rw [if_pos h])
 have E7:=Lib.hid (show xk % 9=7->doM c.p a d ⟨xk,xr,xn,xt⟩=(a.delay xr xn,d.delay xr xn) from fun h=>by unfold doM;rw [if_neg (by simp only;omega),if_neg (by simp only;omega),if_pos h])
 have E9:=Lib.hid (show ¬ (xk % 9=0\/xk % 9=1)-> ¬ (xk % 9=2\/xk % 9=3)->xk % 9≠7->xk % 9≠8->doM c.p a d ⟨xk,xr,xn,xt⟩=bothT c.p (1+(xn % 25).toNat) a d from fun h1 h2 h3 h4=>by unfold doM;rw [if_neg h1,if_neg h2,if_neg h3,if_neg h4])
 have Z2:=Lib.hid (show (xk % 9=2\/xk % 9=3)->c.robots.l.length=0->doM c.p a d ⟨xk,xr,xn,xt⟩=(a,d) from fun h h0=>by
  unfold doM
  rw [if_neg (by simp only;omega),if_pos h,List.getElem?_eq_none (by omega)])
 have Z8:=Lib.hid (show xk % 9=8->c.robots.l.length=0->doM c.p a d ⟨xk,xr,xn,xt⟩=(a,d) from fun h h0=>by
  unfold doM
  rw [if_neg (by simp only;omega),if_neg (by simp only;omega),if_neg (by simp only;omega),if_pos h,List.getElem?_eq_none (by omega)])
 obtain ⟨I,hI⟩: ∃ I,(xr % (c.robots.l.length:Int)).toNat=I:=⟨_,rfl⟩
 obtain ⟨r,hr⟩: ∃ r,d.rs.getD I (RM.start poseO)=r:=⟨_,rfl⟩
 have hIl: ¬ c.robots.l.length=0->xr % (c.robots.l.length:Int)=(I:Int)/\I<c.robots.l.length:=fun h0=>by
  have h1:=Int.emod_nonneg xr (show (c.robots.l.length:Int)≠0 by omega)
  have h2:=Int.emod_lt_of_pos xr (show (0:Int)<c.robots.l.length by omega)
  omega
 have hrI: ¬ c.robots.l.length=0->d.rs[I]?=some r:=fun h0=>by
  have hlt:I<d.rs.length:=by have:=(hIl h0).2;omega
  rw [<-hr,List.getD_eq_getElem?_getD,List.getElem?_eq_getElem hlt]
  rfl
 have kPN:=Lib.hid (fun (h0: ¬ c.robots.l.length=0) (W:World)=>show Calls Tryz.prog 15 #[.int .i64 xr,.int .i64 (c.robots.l.length:Int)] W (Ret (.int .i64 (I:Int)) W) from (Place_calls xr _ W (by omega) (by omega)).mono fun e w' h=>⟨by rw [h.1,(hIl h0).1],by rw [h.2];exact Mod.refl _ _⟩)
 have kF:=fun (h0: ¬ c.robots.l.length=0) (W:World) (hc:Has W (rConf c)) (hw:Has W (rDW c q d))=>dw_fits (n:=xn) hm hz (hrI h0) (hd.ok _ _ (hrI h0)) (by omega) ⟨hd.now.1,by have:=hd.now.2;omega⟩ hc hw
 have hdI:d.rs[(xr % (d.rs.length:Int)).toNat]?=d.rs[I]?:=by rw [<-hI,show d.rs.length=c.robots.l.length by omega]
 have hdI2:(xr % (d.rs.length:Int)).toNat=I:=by rw [<-hI,show d.rs.length=c.robots.l.length by omega]
 have E2:=show (xk % 9=2\/xk % 9=3)-> ¬ c.robots.l.length=0->doM c.p a d ⟨xk,xr,xn,xt⟩=hearB c.p a d (fitsT c.p d I r xn) from fun h h0=>by
  unfold doM
  rw [if_neg (by simp only;omega),if_pos h,hdI2,hrI h0]
 have E8:=Lib.hid (show xk % 9=8-> ¬ c.robots.l.length=0->doM c.p a d ⟨xk,xr,xn,xt⟩=hearB c.p a d (stopT I r) from fun h h0=>by
  unfold doM
  rw [if_neg (by simp only;omega),if_neg (by simp only;omega),if_neg (by simp only;omega),if_pos h,hdI2,hrI h0])
 have hfn:=fits_n (c:=c.p) (m:=d) (i:=I) (r:=r) (n:=xn)
 generalize fitsT c.p d I r xn=tf at kF E2 hfn
 unfold stopT at E8
 obtain ⟨EW,hEW⟩: ∃ e,IntKind.i64.wrap (r.epoch+1)=e:=⟨_,rfl⟩
 rw [hEW] at E8
 have HEW:=Lib.hid hEW
 replace kF:=Lib.hid kF
 replace E2:=Lib.hid E2
 have HRI:=Lib.hid hrI
 have hal:=ha.len
 have hz0:(0:Int)<=9223372036854775807:=by omega
 have BI:=Lib.hid (fun (j:Nat) (a' d':WM) (h1:WInv c.p N j a') (h2:WInv c.p N j d')=>(⟨WInv.tick hN8 h1,WInv.tick hN8 h2⟩:(WInv c.p N (j+1) (a'.tick c.p).1/\(a'.tick c.p).2.length<=8)/\(WInv c.p N (j+1) (d'.tick c.p).1/\(d'.tick c.p).2.length<=8)))
 simp only at hx hfn
 replace ha:=Lib.hid ha
 replace hd:=Lib.hid hd
 clear hEW hrI hIl hdI hdI2 hr hI
 obtain ⟨tk,tr,te,tn,⟨mk,md,mn,⟨⟨sx,sy⟩,sd⟩,⟨⟨dx,dy⟩,dd⟩,ma,me⟩,⟨⟨px,py⟩,pd⟩,tl⟩:=xt
 obtain ⟨uk,ur,ue,un,⟨nk,nd,nn,⟨⟨ax,ay⟩,ad⟩,⟨⟨bx,bby⟩,bd⟩,na,ne⟩,⟨⟨qx,qy⟩,qd⟩,ul⟩:=tf
 simp only at hx hfn
 simp only [Op19.cells,Tele.cells,Go.Sk.Move.cells,Pose.cells,Cell.cells,List.cons_append,List.nil_append]
 refine calls_al _ Tryz.func28 rfl Tryz.ntmps28 (Nat.le_of_ble_eq_true rfl) ?_
 simp only [parL,Nat.reduceAdd]
 repeat' (first
  |((with_reducible refine wb 4 ?_);(refine al_box hK rfl rfl rfl CellsOf.agg ?_;clear hK;intro w4 b4 hK))
  |((with_reducible refine wb 7 ?_);(refine al_box hK rfl rfl rfl CellsOf.agg ?_;clear hK;intro w7 b7 hK;replace hK:=hK.lend.lend))
  |((with_reducible refine wc_at (x:=.region 11 _ _) ?_);have hck:=(show Know _ _ _ (rBlk _ _ 58::_) _ from hK);clear hck;replace hK:=hK.lend)
  |((with_reducible refine wc_at (x:=.region 18 _ _) ?_);obtain ⟨sp,ra,rc,ps,sa,sc,hlen,hK'⟩:=Know.openD [_] hK;clear hK;have hK:=hK';clear hK';obtain ⟨p,hp⟩: ∃ p,ps[I]?=some p:=⟨_,List.getElem?_eq_getElem (by have h5:=(List.getElem?_eq_some_iff.1 (HRI.out (by omega))).1;omega)⟩;have kEp:=Lib.hid (fun (W:World) (h:Has W (rMany (robsD c ps d.rs)))=>Has.drEp (Has.robD h (HRI.out (by omega)) hp));simp only [rDd,ddCells,List.cons_append,List.nil_append] at hK;refine wp_region_lit ?_)
  |((with_reducible refine wt 82 ?_);(refine al_ix (i:=I) (u:=p) (xs:=ps) (E:=elPtr) hK rfl rfl rfl rfl rfl (by left;repeat (first|exact MemS.ow|apply MemS.tail)) (sizT (by decide)) hp ?_))
  |((with_reducible refine wt 86 ?_);(refine al_loadA0 rfl rfl rfl rfl (scalT (by decide)) (kEp.out _ hK.own) rfl ?_))
  |((with_reducible refine wt 87 ?_);(refine al_addW rfl rfl rfl rfl rfl ?_;rw [HEW.out]))
  |((with_reducible refine wc_at (x:=.region 19 _ _) ?_);have hck:=(show Know _ _ _ (rBlk _ _ 58::_) _ from hK);clear hck;replace hK:=Know.shutD [_] hlen hK.lend)
  |((with_reducible refine wp_region_stableK (id:=5) hK [6] _ (by kernel_rfl) (by kernel_rfl) (fun r h=>in_lent h) (by kernel_rfl) ?_);clear hK;intro w' hK)
  |((with_reducible refine wp_region_stableK (id:=11) hK [4] _ (by kernel_rfl) (by kernel_rfl) (fun r h=>in_lent h) (by kernel_rfl) ?_);clear hK;intro w' hK)
  |((with_reducible refine wp_region_stableK (id:=13) hK [8,10] _ (by kernel_rfl) (by kernel_rfl) (fun r h=>in_lent h) (by kernel_rfl) ?_);clear hK;intro w' hK)
  |((with_reducible refine wp_region_stableK (id:=19) hK [4] _ (by kernel_rfl) (by kernel_rfl) (fun r h=>in_lent h) (by kernel_rfl) ?_);clear hK;intro w' hK)
  |(with_reducible refine wpC_of ?_)
  |(with_reducible refine atEndC (hK.cls (fun r h=>in_lent h)) ?_)
  |((with_reducible refine wpC_end' ?_);(first|refine wpC_nil ⟨by kernel_rfl,al_staysP rfl rfl rfl rfl (aggT (by decide)) rfl (rest:=stays_nil),?_⟩|refine wpC_nil ⟨by kernel_rfl,al_stays rfl rfl rfl rfl (scalT (by decide)) rfl (rest:=al_stays rfl rfl rfl rfl (scalT (by decide)) rfl (rest:=stays_nil)),?_⟩))
  |((with_reducible refine wp_region_calmK (id:=10) hK [0,3,5,7,8] [rBlk b4 c.cells 26,rBlk b7 [.int .i64 xk,.int .i64 xr,.int .i64 xn,.int .i64 tk,.int .i64 tr,.int .i64 te,.int .i64 tn,.int .i64 mk,.int .i64 md,.int .i64 mn,.int .i64 sx,.int .i64 sy,.bool sd,.int .i64 dx,.int .i64 dy,.bool dd,.int .i64 ma,.int .i64 me,.int .i64 px,.int .i64 py,.bool pd,.int .i64 tl] 74,rConf c,rDW c q d] (by kernel_rfl) (by kernel_rfl) (by simp) ?_);clear hK;intro w' hK)
  |((with_reducible refine wpG_at 0 ?_);(refine wpG_loadSK (by decide) rfl rfl rfl (aggT (by decide)) (h:=?_);intro w' hM;replace hK:=hK.same hM;clear hM))
  |((with_reducible refine wpG_at 3 ?_);(refine wpG_loadK (by decide) rfl rfl rfl (scalT (by decide)) (h:=?_);intro w' hM;replace hK:=hK.same hM;clear hM))
  |((with_reducible refine wpG_at 5 ?_);(refine wpG_call (v:=.int .i64 (I:Int)) (by decide) rfl (fun _=>by kernel_rfl) (fun W hW=>kPN.out (by omega) W) ?_;intro w' hM;replace hK:=hK.same hM;clear hM))
  |((with_reducible refine wpG_at 7 ?_);(refine wpG_loadK (by decide) rfl rfl rfl (scalT (by decide)) (h:=?_);intro w' hM;replace hK:=hK.same hM;clear hM))
  |((with_reducible refine wpG_at 8 ?_);(refine wpG_call (v:=.agg (Tele.cells ⟨uk,ur,ue,un,⟨nk,nd,nn,⟨⟨ax,ay⟩,ad⟩,⟨⟨bx,bby⟩,bd⟩,na,ne⟩,⟨⟨qx,qy⟩,qd⟩,ul⟩).toArray) (by decide) rfl (fun _=>by kernel_rfl) (fun W hW=>kF.out (by omega) W (hW _ (by simp)) (hW _ (by simp))) ?_;intro w' hM;replace hK:=hK.same hM;clear hM))
  |((with_reducible refine wpG_of (by decide) ?_);intro w' hM;replace hK:=hK.same hM;clear hM)
  |(with_reducible refine atEndC (hK.clsG (by simp)) ?_)
  |((with_reducible refine wpG_nil ?_);intro w' hM;replace hK:=hK.same hM;clear hM;refine ⟨by kernel_rfl,?_⟩)
  |(go_at_call 15;((first|refine (hK.quiet (kP9.out _)).mono ?_|refine (hK.quiet (kP25.out _)).mono ?_|refine (hK.quiet (kPN.out (by omega) _)).mono ?_);clear hK;rintro e w' ⟨rfl,hK⟩))
  |(go_at_call 18;((first|refine (Know.hearsX (r:=rWLD c.p wp a) (L':=[stepsR]) hK (by simp) (fun S' hS=>kA.out _ S' ⟨tk,tr,te,tn,⟨mk,md,mn,⟨⟨sx,sy⟩,sd⟩,⟨⟨dx,dy⟩,dd⟩,ma,me⟩,⟨⟨px,py⟩,pd⟩,tl⟩ hx hS)).mono ?_|refine (Know.hearsX (r:=rWLD c.p wp a) (L':=[stepsR]) hK (by simp) (fun S' hS=>kA.out _ S' ⟨uk,ur,ue,un,⟨nk,nd,nn,⟨⟨ax,ay⟩,ad⟩,⟨⟨bx,bby⟩,bd⟩,na,ne⟩,⟨⟨qx,qy⟩,qd⟩,ul⟩ hfn hS)).mono ?_|refine (Know.hearsX (r:=rWLD c.p wp a) (L':=[stepsR]) hK (by simp) (fun S' hS=>kA.out _ S' ⟨2,(I:Int),EW,0,mvZ,poseO,0⟩ hz0 hS)).mono ?_);clear hK;rintro e w' ⟨adA,cpA,rfl,hK⟩;try simp only [z0,z1] at hK))
  |(go_at_call 56;((first|refine (Know.hearsX (r:=rDW c q d) (L':=[rConf c]) hK (by simp) (fun S' hS=>kD.out _ S' ⟨tk,tr,te,tn,⟨mk,md,mn,⟨⟨sx,sy⟩,sd⟩,⟨⟨dx,dy⟩,dd⟩,ma,me⟩,⟨⟨px,py⟩,pd⟩,tl⟩ hS)).mono ?_|refine (Know.hearsX (r:=rDW c q d) (L':=[rConf c]) hK (by simp) (fun S' hS=>kD.out _ S' ⟨uk,ur,ue,un,⟨nk,nd,nn,⟨⟨ax,ay⟩,ad⟩,⟨⟨bx,bby⟩,bd⟩,na,ne⟩,⟨⟨qx,qy⟩,qd⟩,ul⟩ hS)).mono ?_|refine (Know.hearsX (r:=rDW c q d) (L':=[rConf c]) hK (by simp) (fun S' hS=>kD.out _ S' ⟨2,(I:Int),EW,0,mvZ,poseO,0⟩ hS)).mono ?_);clear hK;rintro e w' ⟨adD,cpD,rfl,hK⟩;try simp only [z0,z1] at hK))
  |(go_at_call 55;(refine (hK.quiet (kST.out _ _ _ _ _ _ _ hK.rd hK.rd (hlA _))).mono ?_;clear hK;rintro e w' ⟨rfl,hK⟩))
  |(go_at_call 13;(refine (hK.callsK (r:=rWLD c.p wp a) (by repeat (first|exact Ix.head|apply Ix.tail)) (fun S' hS=>kDe.out _ S' xr xn _ hS)).mono ?_;clear hK;rintro e w' ⟨rfl,hK⟩;try simp only [z0,z1] at hK))
  |(go_at_call 58;(refine (hK.callsK (r:=rDW c q d) (by repeat (first|exact Ix.head|apply Ix.tail)) (fun S' hS=>kDd.out _ S' xr xn _ hS)).mono ?_;clear hK;rintro e w' ⟨rfl,hK⟩;try simp only [z0,z1] at hK))
  |((with_reducible refine put2_at ?_);simp only [al_put])
  |(with_reducible refine wc_at (x:=.loop _) ?_;refine Held.out ?_)
  |(refine sl ?_)
  |((with_reducible refine wl_at ?_);first|refine al ?_|refine Held.out ?_)
  |(with_reducible refine Two.mk (fun h=>?_) (fun h=>?_)<;>go_prune)
  |(with_reducible refine en ?_)
  |(with_reducible refine ret_at ?_)
  |(with_reducible refine fun (w':World) (b:Nat) hK'=>?_;clear hK;have hK:=hK';clear hK')
  |(with_reducible refine fun (w':World) hK'=>?_;clear hK;have hK:=hK';clear hK')
  |(with_reducible refine fun (b k:Nat) hat=>?_))
 all_goals first
  |(refine al_ret1 rfl Vis.bool ⟨⟨_,rfl⟩,?_⟩
    first
    |(rw [E0.out (by omega)];exact (hK.sub (.cons _ (.cons _ (List.Sublist.refl _)))).turns)
    |(rw [E2.out (by omega) (by omega)];exact (hK.sub (.cons _ (.cons _ (List.Sublist.refl _)))).turns)
    |(rw [E8.out (by omega) (by omega)];exact (hK.sub (.cons _ (.cons _ (List.Sublist.refl _)))).turns)
    |(rw [E7.out (by omega)];exact hK.turns)
    |(rw [Z2.out (by omega) (by omega)];exact hK.turns)
    |(rw [Z8.out (by omega) (by omega)];exact hK.turns))
  |skip
 rw [E9.out (by omega) (by omega) (by omega) (by omega)]
 obtain ⟨T,hT⟩: ∃ T:Nat,(xn % 25).toNat=T:=⟨_,rfl⟩
 have hT0:xn % 25=(T:Int):=by omega
 have hT1:T<=24:=by omega
 rw [hT]
 obtain ⟨R,hR⟩: ∃ R,bothT c.p (1+T) a d=R:=⟨_,rfl⟩
 rw [hR]
 refine ⟨al_loop (fun n live W=> ∃ (j:Nat) (a' d':WM),live=[(13,.int .i64 (j:Int)),(1,.pointer (some ⟨wp,0,none⟩)),(2,.pointer (some ⟨q,0,none⟩)),(7,.pointer (some ⟨b7,0,none⟩))]/\n+j=1+T/\bothT c.p n a' d'=R/\WInv c.p N (k+j) a'/\WInv c.p N (k+j) d'/\Know w W S [rWLD c.p wp a',rDW c q d'] [rBlk b4 c.cells 26,rBlk b7 [.int .i64 xk,.int .i64 xr,.int .i64 xn,.int .i64 tk,.int .i64 tr,.int .i64 te,.int .i64 tn,.int .i64 mk,.int .i64 md,.int .i64 mn,.int .i64 sx,.int .i64 sy,.bool sd,.int .i64 dx,.int .i64 dy,.bool dd,.int .i64 ma,.int .i64 me,.int .i64 px,.int .i64 py,.bool pd,.int .i64 tl] 74,rConf c,stepsR]) (1+T) [(13,.int .i64 ((0:Nat):Int)),(1,.pointer (some ⟨wp,0,none⟩)),(2,.pointer (some ⟨q,0,none⟩)),(7,.pointer (some ⟨b7,0,none⟩))] (.cons rfl (.cons rfl (.cons rfl (.cons rfl .nil)))) ⟨0,a,d,rfl,rfl,hR,ha.out,hd.out,hK⟩ ?_⟩
 clear hK
 rintro n live z w1 ⟨j,a',d',rfl,hn,hb,ia,id,hK⟩
 simp only [List.cons_append,List.nil_append]
 have kTa':=Lib.hid (fun (W:World) (S':Nat->Prop) (h:Know W W S' [rWLD c.p wp a'] [])=>kTa.out a' (k+j) (by omega) ia W S' h)
 have kTd':=Lib.hid (fun (W:World) (S':Nat->Prop) (h:Know W W S' [rDW c q d'] [rConf c])=>kTd.out d' (k+j) (by omega) id W S' h)
 obtain ⟨⟨ia1,hla⟩,⟨id1,_⟩⟩:=BI.out (k+j) a' d' ia id
 repeat' (first
  |(go_at_call 15;(refine (hK.quiet (kP25.out _)).mono ?_;clear hK;rintro e w' ⟨rfl,hK⟩))
  |(go_at_call 19;(refine (Know.hearsX (r:=rWLD c.p wp a') (L':=[]) hK (by simp) (fun S' hS=>kTa'.out _ S' hS)).mono ?_;clear hK;rintro e w' ⟨adA,cpA,rfl,hK⟩;try simp only [z0,z1] at hK))
  |(go_at_call 59;(refine (Know.hearsX (r:=rDW c q d') (L':=[rConf c]) hK (by simp) (fun S' hS=>kTd'.out _ S' hS)).mono ?_;clear hK;rintro e w' ⟨adD,cpD,rfl,hK⟩;try simp only [z0,z1] at hK))
  |(go_at_call 55;(refine (hK.quiet (kST.out _ _ _ _ _ _ _ hK.rd hK.rd (by omega))).mono ?_;clear hK;rintro e w' ⟨rfl,hK⟩;cases hq:decide ((a'.tick c.p).2=(d'.tick c.p).2)))
  |(refine sl ?_)
  |((with_reducible refine wl_at ?_);first|refine al ?_|refine Held.out ?_)
  |(with_reducible refine Two.mk (fun h=>?_) (fun h=>?_)<;>go_prune)
  |(with_reducible refine en ?_)
  |(with_reducible refine ret_at ?_)
  |(with_reducible refine fun (w':World) (b:Nat) hK'=>?_;clear hK;have hK:=hK';clear hK')
  |(with_reducible refine fun (w':World) hK'=>?_;clear hK;have hK:=hK';clear hK')
  |(with_reducible refine fun (b k:Nat) hat=>?_))
 · obtain ⟨n',rfl⟩: ∃ n',n=n'+1:=⟨n - 1,by omega⟩
   unfold bothT at hb
   rw [if_neg (of_decide_eq_false hq)] at hb
   refine al_ret1 rfl Vis.bool ⟨⟨_,rfl⟩,?_⟩
   rw [<-hb]
   exact (hK.sub (.cons _ (.cons _ (List.Sublist.refl _)))).turns
 · obtain ⟨n',rfl⟩: ∃ n',n=n'+1:=⟨n - 1,by omega⟩
   unfold bothT at hb
   rw [if_pos (of_decide_eq_true hq)] at hb
   exact ⟨n',[(13,.int .i64 ((j+1:Nat):Int)),(1,.pointer (some ⟨wp,0,none⟩)),(2,.pointer (some ⟨q,0,none⟩)),(7,.pointer (some ⟨b7,0,none⟩))],_,rfl,rfl,.cons rfl (.cons rfl (.cons rfl (.cons rfl .nil))),j+1,_,_,rfl,by omega,hb,ia1,id1,hK.sub (.cons _ (.cons _ (List.Sublist.refl _)))⟩
 · obtain rfl:n=0:=by omega
   refine al_ret1 rfl Vis.bool ⟨⟨_,rfl⟩,?_⟩
   rw [<-hb]
   exact hK.turns
end Go.Proofs.YtngeeilkpnihmaaGreatDoor
namespace Go.Proofs.YtngeeilkpnihmaaGreatDoor
open Go Go.Sk Go.RowKit
set_option maxRecDepth 100000
attribute [local irreducible] wpList Code.wp Calls
theorem op19ElTy:ElTy Tryz.prog 74 elOp19 op19Ks:=⟨by kernel_rfl,by kernel_rfl,rfl,by decide,ofk_op19⟩
def playM (c:ConfP) (l:List Op19):WM×WM:=(l.take 50).foldl (fun p x=>doM c p.1 p.2 x) (WM.start c,WM.start c)
theorem play_inv {c:ConfP} (hm:MayP c) (hwf: ∀ p∈c.robots,WfP p) (l:List Op19): ∀ j,WInv c c.robots.length (25*j) ((l.take j).foldl (fun p x=>doM c p.1 p.2 x) (WM.start c,WM.start c)).1/\WInv c c.robots.length (25*j) ((l.take j).foldl (fun p x=>doM c p.1 p.2 x) (WM.start c,WM.start c)).2
 |0=>⟨WInv.start hwf,WInv.start hwf⟩
 |j+1=>by
  have ih:=play_inv hm hwf l j
  by_cases hj:j<l.length
  · rw [List.take_succ_eq_append_getElem hj,List.foldl_append]
    have:=doM_inv hm hm.robots8 l[j] ih.1 ih.2
    exact this
  · rw [List.take_of_length_le (by omega)]
    rw [List.take_of_length_le (by omega)] at ih
    exact ⟨ih.1.more (by omega),ih.2.more (by omega)⟩
theorem calls_do {c:ConfV} {wp q N k:Nat} {a d:WM} {x:Op19} {w0 w:World} {F:Nat->Prop} {M L:List Res} (hm:MayP c.p) (hz:Sized c) (hx:x.t.move.n<=9223372036854775807) (ha:WInv c.p N k a) (hd:WInv c.p N k d) (hN:c.robots.l.length=N) (hk:k<=2000) (hL: ∀ r∈[rConf c,stepsR],r∈L) (h:Know w0 w F ([rWLD c.p wp a,rDW c q d]++M) L):
 Calls Tryz.prog 28 #[.agg c.cells.toArray,.pointer (some ⟨wp,0,none⟩),.pointer (some ⟨q,0,none⟩),.agg x.cells.toArray] w fun e w'=> ∃ b,e=.returned (.bool b)/\Know w0 w' F ([rWLD c.p wp (doM c.p a d x).1,rDW c q (doM c.p a d x).2]++M) L:=by
 obtain ⟨S,hKS,back⟩:=Know.focus h
 refine (do_calls hm hz hx ha hd hN hk (hKS.subL hL)).mono ?_
 rintro e w' ⟨⟨b,rfl⟩,hT⟩
 exact ⟨b,rfl,back w' _ hT⟩
set_option maxHeartbeats 4000000 in
theorem play_calls {c:ConfV} {sa:Option Addr} {sc:Nat} {l:List Op19} {w:World} (hm:MayP c.p) (hu:Upto c) (hwf: ∀ p∈c.robots.l,PoseWf p) (hlen:l.length<=1048576) (hl: ∀ x∈l,∀ u∈El.cells elOp19 x,okNum u) (hc:Has w (rConf c)) (hst:Has w stepsR) (hs:Rd w elOp19 (.slice sa l.length sc) l):
 Calls Tryz.prog 10 #[.agg c.cells.toArray,.slice sa l.length sc] w fun e w'=> ∃ wp,e=.returned (.tuple #[.pointer (some ⟨wp,0,none⟩),.bool true])/\Turn (rWLD c.p wp (playM c.p l).1) w w' none':=by
 have hK:Know w w none' [] [rRd elOp19 (.slice sa l.length sc) l,rConf c,stepsR]:=Know.start (L:=[rRd elOp19 (.slice sa l.length sc) l,rConf c,stepsR]) w (by
  intro r hr
  simp only [List.mem_cons,List.not_mem_nil,or_false] at hr
  rcases hr with rfl|rfl|rfl
  · exact hs.has
  · exact hc
  · exact hst)
 clear hc hst hs
 have kW:=Lib.hid (fun (W:World) (d:ConfV) (hd:d.p=c.p) (h:Has W (rDup d)) (h2:Has W stepsR)=>w_newD hm hd hu hwf h h2)
 have kR:=Lib.hid (fun (W:World) (h:Has W (rConf c))=>dw_new h hu hm)
 have hz:Sized c:=(upto_p rfl hu).sized
 have hinv:=play_inv hm (fun p hp=>⟨(hwf p hp).x,(hwf p hp).y⟩) l
 refine calls_al _ Tryz.func10 rfl Tryz.ntmps10 (Nat.le_of_ble_eq_true rfl) ?_
 simp only [parL,Nat.reduceAdd]
 repeat' (first
  |((with_reducible refine wb 2 ?_);(refine al_box hK rfl rfl rfl CellsOf.agg ?_;clear hK;intro w2 b2 hK;replace hK:=hK.lend))
  |(go_at_call 26;(refine (dup_calls (c:=c) hK.lent hu).mono ?_;rintro e w' ⟨d,rfl,hd,hT⟩;replace hK:=hK.push1 hT;have HD:=Lib.hid hd;clear hT hd))
  |(go_at_call 16;(refine (kW.out _ _ HD.out hK.own hK.lent).mono ?_;rintro e w' ⟨wp,rfl,hT⟩;replace hK:=hK.push1 hT;clear hT))
  |(go_at_call 27;(refine (kR.out _ hK.lent).mono ?_;rintro e w' ⟨q,rfl,hT⟩;replace hK:=hK.push1 hT;clear hT))
  |(with_reducible refine wc_at (x:=.loop _) ?_;refine Held.out ?_)
  |(refine sl ?_)
  |((with_reducible refine wl_at ?_);first|refine al ?_|refine Held.out ?_)
  |(with_reducible refine Two.mk (fun h=>?_) (fun h=>?_)<;>go_prune)
  |(with_reducible refine en ?_)
  |(with_reducible refine ret_at ?_)
  |(with_reducible refine fun (w':World) (b:Nat) hK'=>?_;clear hK;have hK:=hK';clear hK')
  |(with_reducible refine fun (w':World) hK'=>?_;clear hK;have hK:=hK';clear hK')
  |(with_reducible refine fun (b k:Nat) hat=>?_))
 have hK1:=(hK.sub (.cons_cons _ (.cons_cons _ (.cons _ .slnil)))).perm (List.Perm.swap _ _ _)
 clear hK
 obtain ⟨T,hT⟩: ∃ T,min l.length 50=T:=⟨_,rfl⟩
 refine ⟨al_loop (fun n live W=> ∃ (j:Nat) (aj dj:WM),live=[(9,.int .i64 (j:Int)),(1,.slice sa l.length sc),(2,.pointer (some ⟨b2,0,none⟩)),(6,.pointer (some ⟨wp,0,none⟩)),(8,.pointer (some ⟨q,0,none⟩))]/\n+j=T/\(l.take j).foldl (fun p x=>doM c.p p.1 p.2 x) (WM.start c.p,WM.start c.p)=(aj,dj)/\Know w W none' [rWLD c.p wp aj,rDW c q dj] [rBlk b2 c.cells 26,rRd elOp19 (.slice sa l.length sc) l,rConf c,stepsR]) T [(9,.int .i64 ((0:Nat):Int)),(1,.slice sa l.length sc),(2,.pointer (some ⟨b2,0,none⟩)),(6,.pointer (some ⟨wp,0,none⟩)),(8,.pointer (some ⟨q,0,none⟩))] (.cons rfl (.cons rfl (.cons rfl (.cons rfl (.cons rfl .nil))))) ⟨0,_,_,rfl,rfl,rfl,hK1⟩ ?_⟩
 clear hK1
 rintro n live z w1 ⟨j,aj,dj,rfl,hn,hf,hK⟩
 simp only [List.cons_append,List.nil_append]
 have hi:=hinv j
 rw [hf] at hi
 by_cases hlt:j<l.length/\j<50
 · obtain ⟨x,hx⟩: ∃ x,l[j]?=some x:=⟨_,List.getElem?_eq_getElem hlt.1⟩
   have kDo:=Lib.hid (fun (W:World) (L:List Res) (hL: ∀ r∈[rConf c,stepsR],r∈L) (h:Know w W none' ([rWLD c.p wp aj,rDW c q dj]++[]) L)=>calls_do (x:=x) hm hz (op19_n (hl x (List.mem_of_getElem? hx))) hi.1 hi.2 rfl (by omega) hL h)
   have HX:=Lib.hid hx
   have hfn:(l.take (j+1)).foldl (fun p x=>doM c.p p.1 p.2 x) (WM.start c.p,WM.start c.p)=doM c.p aj dj x:=by
    rw [List.take_add_one,hx,List.foldl_append,hf]
    rfl
   repeat' (first
    |((with_reducible refine tx 8 hK ?_);clear hK;intro w' hK)
    |((with_reducible refine wl_at (o:=⟨_,.indexAddr _ _ _,_,_,_,_⟩) ?_);(refine al_ix (i:=j) (u:=x) (xs:=l) (E:=elOp19) hK rfl rfl rfl rfl rfl (by right;repeat (first|exact MemS.rd|apply MemS.tail)) (aggS (by decide)) HX.out ?_))
    |(go_at_call 28;(refine (kDo.out _ _ (by simp) hK).mono ?_;clear hK;rintro e w' ⟨bq,rfl,hK⟩;simp only [List.cons_append,List.nil_append] at hK))
    |(refine sl ?_)
    |((with_reducible refine wl_at ?_);first|refine al ?_|refine Held.out ?_)
    |(with_reducible refine Two.mk (fun h=>?_) (fun h=>?_)<;>go_prune)
    |(with_reducible refine en ?_)
    |(with_reducible refine ret_at ?_)
    |(with_reducible refine fun (w':World) (b:Nat) hK'=>?_;clear hK;have hK:=hK';clear hK')
    |(with_reducible refine fun (w':World) hK'=>?_;clear hK;have hK:=hK';clear hK')
    |(with_reducible refine fun (b k:Nat) hat=>?_))
   refine ⟨n - 1,[(9,.int .i64 ((j+1:Nat):Int)),(1,.slice sa l.length sc),(2,.pointer (some ⟨b2,0,none⟩)),(6,.pointer (some ⟨wp,0,none⟩)),(8,.pointer (some ⟨q,0,none⟩))],_,by omega,rfl,.cons rfl (.cons rfl (.cons rfl (.cons rfl (.cons rfl .nil)))),j+1,_,_,rfl,by omega,hfn,hK⟩
 · repeat' (first
    |(refine sl ?_)
    |((with_reducible refine wl_at ?_);first|refine al ?_|refine Held.out ?_)
    |(with_reducible refine Two.mk (fun h=>?_) (fun h=>?_)<;>go_prune)
    |(with_reducible refine en ?_)
    |(with_reducible refine ret_at ?_)
    |(with_reducible refine fun (w':World) (b:Nat) hK'=>?_;clear hK;have hK:=hK';clear hK')
    |(with_reducible refine fun (w':World) hK'=>?_;clear hK;have hK:=hK';clear hK')
    |(with_reducible refine fun (b k:Nat) hat=>?_))
   all_goals
    refine al_ret2 rfl Vis.ptr Vis.bool ⟨wp,rfl,?_⟩
    have e:(playM c.p l).1=aj:=by
     unfold playM
     rw [show l.take 50=l.take j by
      by_cases h50:l.length<=50
      · rw [List.take_of_length_le h50,List.take_of_length_le (by omega)]
      · rw [show j=50 by omega],hf]
    rw [e]
    exact (hK.sub (.cons_cons _ (.cons _ .slnil))).turn
end Go.Proofs.YtngeeilkpnihmaaGreatDoor
