/- Texts of mine that belong together: Dw9, Dwf. -/
import Derived.Test.YtngeeilkpnihmaaGreatDoorDwBZ
import Derived.Test.YtngeeilkpnihmaaGreatDoorDrAZ
import Derived.Test.YtngeeilkpnihmaaGreatDoorWd6Z
import Derived.Test.YtngeeilkpnihmaaGreatDoorEngZ
import Derived.Test.YtngeeilkpnihmaaGreatDoorWdBZ
import Derived.Test.YtngeeilkpnihmaaGreatDoorWd4Z
set_option linter.all false
namespace Go.Proofs.YtngeeilkpnihmaaGreatDoor
open Go Go.Sk Go.RowKit
set_option maxRecDepth 100000
attribute [local irreducible] wpList Code.wp Calls
theorem calls_binsO {c:ConfV} {wp sp i p:Nat} {ra sa:Option Addr} {rc sc:Nat} {ps:List Nat} {m:WM} {r:RM} {mv:Go.Sk.Move} {w0 w:World} {F:Nat->Prop} {A L:List Res} (hr:m.rs[i]?=some r) (hp:ps[i]?=some p) (hml:m.l.length<=90000000) (hz:Sized c) (hs:rConf c∈L) (h:Know w0 w F (A++rDd c wp sp ra rc ps sa sc m) L):
 Calls Tryz.prog 81 #[.pointer (some ⟨wp,0,none⟩),.int .i64 (i:Int),.agg mv.cells.toArray] w fun e w'=>e=.returned (.tuple #[])/\ ∃ sa' sc',Know w0 w' F (A++rDd c wp sp ra rc ps sa' sc' (({m with s:=(hoistW c.p m.s i r mv.kind).1,rs:=m.rs.set i (hoistW c.p m.s i r mv.kind).2.1}:WM).see i r.pose (hoistW c.p m.s i r mv.kind).2.2)) L:=by
 have h1:Know w0 w F (rDd c wp sp ra rc ps sa sc m++A) L:=h.perm List.perm_append_comm
 obtain ⟨S,hKS,back⟩:=Know.focusM h1
 refine (dw_bins (mv:=mv) hr hp hml hz (hKS.subL (L':=[rConf c]) (by intro x hx;simp at hx;subst hx;exact List.mem_append_right _ hs))).mono ?_
 rintro e w' ⟨he,sa',sc',hT⟩
 exact ⟨he,sa',sc',(back w' _ hT).perm List.perm_append_comm⟩
set_option maxHeartbeats 4000000 in
theorem dw_tick {c:ConfV} {wp:Nat} {m:WM} {n:Int} {w:World} {S:Nat->Prop} (hok: ∀ (i:Nat) r,m.rs[i]?=some r->RMOk c.p r n) (hn:n<=1000000000) (hz:Sized c) (hml:m.l.length<=80000000) (hrs:m.rs.length<=64) (hnow:0<=m.now/\m.now<=1000000000) (h:Know w w S [rDW c wp m] [rConf c]):
 Calls Tryz.prog 59 #[.pointer (some ⟨wp,0,none⟩)] w fun e w'=> ∃ ad cap,e=.returned (.slice ad (m.tick c.p).2.length cap)/\Turns [rOw 58 elTele (.slice ad (m.tick c.p).2.length cap) (m.tick c.p).2,rDW c wp (m.tick c.p).1] w w' S:=by
 obtain ⟨sp,ra,rc,ps,sa,sc,hlen,hK⟩:=Know.openD [] h
 clear h
 obtain ⟨now0,now1⟩:=hnow
 have HSH0:=Lib.hid (fun (W:World) (A L:List Res) (h:Know w W S (A++rDd c wp sp ra rc ps sa sc {m with now:=m.now+1}) L)=>Know.shutD (m:={m with now:=m.now+1}) A hlen h)
 obtain ⟨N,hN⟩: ∃ N,m.rs.length=N:=⟨_,rfl⟩
 have HN0:=Lib.hid hN
 unfold WM.tick
 rw [hN] at hrs ⊢
 clear hlen hN
 simp only [rDd,ddCells,ConfV.cells,List.cons_append,List.nil_append] at hK
 refine calls_al _ Tryz.func59 rfl Tryz.ntmps59 (Nat.le_of_ble_eq_true rfl) ?_
 simp only [parL,Nat.reduceAdd]
 repeat' (first
  |(with_reducible refine wc_at (x:=.loop _) ?_;refine Held.out ?_)
  |(refine sl ?_)
  |((with_reducible refine wl_at ?_);first|refine al ?_|refine Held.out ?_)
  |(with_reducible refine Two.mk (fun h=>?_) (fun h=>?_)<;>go_prune)
  |(with_reducible refine en ?_)
  |(with_reducible refine ret_at ?_)
  |(with_reducible refine fun (w':World) (b:Nat) hK'=>?_;clear hK;have hK:=hK';clear hK')
  |(with_reducible refine fun (w':World) hK'=>?_;clear hK;have hK:=hK';clear hK')
  |(with_reducible refine fun (b k:Nat) hat=>?_))
 replace hK:=HSH0.out _ [] _ (by simp only [rDd,ddCells,ConfV.cells,List.cons_append,List.nil_append];exact hK)
 replace hK:=hK.nil 58 elTele
 simp only [List.nil_append] at hK
 clear HSH0
 refine ⟨al_loop (fun k live W=> ∃ (j:Nat) (oa:Option Addr) (on oc:Nat) (wm:WM) (out:List Tele),live=[(4,.int .i64 (j:Int)),(3,.slice oa on oc),(0,.pointer (some ⟨wp,0,none⟩))]/\k=N - j/\j<=N/\m.ticks c.p j=(wm,out)/\on=out.length/\on<=j/\Know w W S [rOw 58 elTele (.slice oa on oc) out,rDW c wp wm] [rConf c]) N [(4,.int .i64 ((0:Nat):Int)),(3,.slice none 0 0),(0,.pointer (some ⟨wp,0,none⟩))] (.cons rfl (.cons rfl (.cons rfl .nil))) ⟨0,none,0,0,_,[],rfl,rfl,by omega,rfl,rfl,by omega,hK⟩ ?_⟩
 clear hK
 rintro k live z w1 ⟨j,oa,on,oc,wm,out,rfl,hk,hj,hT,hon,honj,hK⟩
 simp only [List.cons_append,List.nil_append]
 obtain ⟨q1,q2,q3,q4,q5⟩:=ticks_is (c:=c.p) m j (by rw [HN0.out];omega)
 rw [hT] at q1 q2 q3 q4 q5
 simp only [HN0.out] at q1 q2 q3 q4 q5
 have HT:=Lib.hid hT
 clear sp ra rc ps sa sc
 obtain ⟨sp,ra,rc,ps,sa,sc,hlen,hK1⟩:=Know.openD [rOw 58 elTele (.slice oa on oc) out] hK
 clear hK
 have hK:=hK1
 clear hK1
 by_cases hlt:j<N
 · obtain ⟨r,hr⟩: ∃ r,m.rs[j]?=some r:=⟨_,List.getElem?_eq_getElem (by rw [HN0.out];omega)⟩
   have hrw:wm.rs[j]?=some r:=by rw [q3 j (Nat.le_refl _),hr]
   have hnext:=ticks_next (c:=c.p) hr (by rw [HN0.out];exact hlt)
   rw [hT] at hnext
   simp only at hnext
   obtain ⟨p,hp⟩: ∃ p,ps[j]?=some p:=⟨_,List.getElem?_eq_getElem (by rw [hlen,q1];exact hlt)⟩
   have HP:=Lib.hid hp
   have hokr:=hok j r hr
   have kT0:=(fun (W:World) (A:List Res) (h:Know w W S (A++rDd c wp sp ra rc ps sa sc wm) [rConf c])=>turnsD (r':=r.tick.1) (v:=.tuple #[.agg r.tick.2.1.cells.toArray,.int .i64 r.tick.2.2]) h hrw hp (fun S hS=>dr_tick hokr hn hS))
   have hhow:=(RMOk.tick_is hokr rfl).2
   unfold tickW at hnext
   generalize r.tick=rt at kT0 hhow hnext
   obtain ⟨r',mv,how⟩:=rt
   simp only at kT0 hhow hnext
   have hh3:how=0\/how=1\/how=2:=by
    rcases hhow with e|e|e
    · exact .inl e.1
    · exact .inr (.inl e.1)
    · exact .inr (.inr e.1)
   clear hhow hokr hT
   obtain ⟨s,rs,now,l⟩:=wm
   simp only at q1 q2 q4 hlen hrw kT0 hnext hK
   obtain ⟨rs1,hrs1⟩: ∃ x,rs.set j r'=x:=⟨_,rfl⟩
   have hr1:rs1[j]?=some r':=by rw [<-hrs1];exact List.getElem?_set_self (by omega)
   have hlen1:ps.length=rs1.length:=by rw [<-hrs1,List.length_set];exact hlen
   rw [hrs1] at kT0
   have hll:l.length<=80001000:=by omega
   have kT:=Lib.hid kT0
   clear kT0
   have kB:=Lib.hid (fun (W:World) (A:List Res) (h:Know w W S (A++rDd c wp sp ra rc ps sa sc ⟨s,rs1,now,l⟩) [rConf c])=>calls_binsO (mv:=mv) (m:=⟨s,rs1,now,l⟩) hr1 hp (by show l.length<=_;omega) hz (by simp) h)
   simp only [WM.see] at kB hnext
   have hp2:=hoist_pose (c:=c.p) (s:=s) (i:=j) (r:=r') (k:=mv.kind)
   have hn2:=hoist_len (c:=c.p) (s:=s) (i:=j) (r:=r') (k:=mv.kind)
   generalize hoistW c.p s j r' mv.kind=H at kB hnext hp2 hn2
   obtain ⟨s2,ρ,xs⟩:=H
   simp only at kB hnext hp2 hn2
   obtain ⟨rs2,hrs2⟩: ∃ x,rs1.set j ρ=x:=⟨_,rfl⟩
   have hrs2':rs.set j ρ=rs2:=by rw [<-hrs2,<-hrs1,List.set_set]
   rw [hrs2] at kB
   have hr2:rs2[j]?=some ρ:=by rw [<-hrs2];exact List.getElem?_set_self (by omega)
   have hlen2:ps.length=rs2.length:=by rw [<-hrs2,List.length_set];exact hlen1
   obtain ⟨l2,hl2⟩: ∃ x,l++xs.map (fun x=>x.at now j r'.pose)=x:=⟨_,rfl⟩
   have hll2:l2.length<=80001100:=by rw [<-hl2,List.length_append,List.length_map];omega
   rw [hl2] at kB
   have hl0:l.length<=100000000:=by omega
   have hl20:l2.length<=100000000:=by omega
   have hl1: ∀ x:Sight,(l++[x]).length<=100000000:=fun x=>by rw [List.length_append];simp only [List.length_cons,List.length_nil];omega
   have hl21: ∀ x:Sight,(l2++[x]).length<=100000000:=fun x=>by rw [List.length_append];simp only [List.length_cons,List.length_nil];omega
   have kS1:=Lib.hid (fun (W:World) (A:List Res) (l':List Sight) (sa:Option Addr) (sc:Nat) (kind bin:Int) (mv:Go.Sk.Move) (hl:l'.length<=100000000) (h:Know w W S (A++rDd c wp sp ra rc ps sa sc ⟨s,rs1,now,l'⟩) [rConf c])=>calls_seeO (kind:=kind) (bin:=bin) (mv:=mv) (m:=⟨s,rs1,now,l'⟩) hr1 hp hl h)
   have kS2:=Lib.hid (fun (W:World) (A:List Res) (l':List Sight) (sa:Option Addr) (sc:Nat) (kind bin:Int) (mv:Go.Sk.Move) (hl:l'.length<=100000000) (h:Know w W S (A++rDd c wp sp ra rc ps sa sc ⟨s2,rs2,now,l'⟩) [rConf c])=>calls_seeO (kind:=kind) (bin:=bin) (mv:=mv) (m:=⟨s2,rs2,now,l'⟩) hr2 hp hl h)
   have kL1:=Lib.hid (fun (W:World) (h:Has W (rMany (robsD c ps rs1)))=>dr_tell (Has.robD (m:=⟨s,rs1,now,l⟩) h hr1 hp))
   have kL2:=Lib.hid (fun (W:World) (h:Has W (rMany (robsD c ps rs2)))=>dr_tell (Has.robD (m:=⟨s2,rs2,now,l2⟩) h hr2 hp))
   have kZ:=Lib.hid (fun (W:World) (A:List Res) (s':SM) (l':List Sight) (sa:Option Addr) (sc:Nat) (h:Know w W S (A++rDd c wp sp ra rc ps sa sc ⟨s',rs1,now,l'⟩) [rConf c])=>Know.shutD (m:=⟨s',rs1,now,l'⟩) A hlen1 h)
   have kZ2:=Lib.hid (fun (W:World) (A:List Res) (s':SM) (l':List Sight) (sa:Option Addr) (sc:Nat) (h:Know w W S (A++rDd c wp sp ra rc ps sa sc ⟨s',rs2,now,l'⟩) [rConf c])=>Know.shutD (m:=⟨s',rs2,now,l'⟩) A hlen2 h)
   have E0:=Lib.hid (show how=0->m.ticks c.p (j+1)=(⟨s,rs1,now,l⟩,out) by
    intro h0
    rw [hnext,if_pos h0,<-hrs1]
    simp)
   have E1:=Lib.hid (show how=1-> ¬ (mv.kind=3\/mv.kind=4)->m.ticks c.p (j+1)=(⟨s,rs1,now,l++[⟨2,now,j,0,r'.pose,mv⟩]⟩,out++[r'.tell j]) by
    intro h0 h1
    rw [hnext,if_neg (by omega),if_neg h1,if_neg (by omega),<-hrs1]
    simp [Seen.at])
   have E2:=Lib.hid (show how=2-> ¬ (mv.kind=3\/mv.kind=4)->m.ticks c.p (j+1)=(⟨s,rs1,now,(l++[⟨2,now,j,0,r'.pose,mv⟩])++[⟨3,now,j,0,r'.pose,mvZ⟩]⟩,out++[r'.tell j]) by
    intro h0 h1
    rw [hnext,if_neg (by omega),if_neg h1,if_pos h0,<-hrs1]
    simp [Seen.at])
   have E3:=Lib.hid (show how=1->(mv.kind=3\/mv.kind=4)->m.ticks c.p (j+1)=(⟨s2,rs2,now,l2++[⟨2,now,j,0,ρ.pose,mv⟩]⟩,out++[ρ.tell j]) by
    intro h0 h1
    rw [hnext,if_neg (by omega),if_pos h1,if_neg (by omega),<-hrs2',<-hl2,hp2]
    simp [Seen.at])
   have E4:=Lib.hid (show how=2->(mv.kind=3\/mv.kind=4)->m.ticks c.p (j+1)=(⟨s2,rs2,now,(l2++[⟨2,now,j,0,ρ.pose,mv⟩])++[⟨3,now,j,0,ρ.pose,mvZ⟩]⟩,out++[ρ.tell j]) by
    intro h0 h1
    rw [hnext,if_neg (by omega),if_pos h1,if_pos h0,<-hrs2',<-hl2,hp2]
    simp [Seen.at])
   clear hnext hrs1 hrs2 hrs2' hr1 hr2 hr hrw hp hok hlen1 hlen2
   obtain ⟨mk,md,mn,⟨⟨sx,sy⟩,sd⟩,⟨⟨dx,dy⟩,dd⟩,ma,me⟩:=mv
   simp only [rDd,ddCells,ConfV.cells,Pose.cells,Cell.cells,Go.Sk.Move.cells,List.cons_append,List.nil_append] at hK kT
   repeat' (first
    |((with_reducible refine wl_at (o:=⟨_,.indexAddr _ _ _,_,_,_,_⟩) ?_);(refine al_ix (i:=j) (u:=p) (xs:=ps) (E:=elPtr) hK rfl rfl rfl rfl rfl (by left;repeat (first|exact MemS.ow|apply MemS.tail)) (sizT (by decide)) HP.out ?_))
    |(go_at_call 80;(refine (kT.out _ [_] hK).mono ?_;clear hK;rintro e w' ⟨rfl,hK⟩;simp only [rDd,ddCells,ConfV.cells,List.cons_append,List.nil_append] at hK))
    |(go_at_call 81;(refine (kB.out _ [_,_] hK).mono ?_;clear hK;rintro e w' ⟨rfl,sa',sc',hK⟩;simp only [rDd,ddCells,ConfV.cells,List.cons_append,List.nil_append] at hK))
    |(go_at_call 76;((first|refine (kS1.out _ [_,_] _ _ _ _ _ ⟨mk,md,mn,⟨⟨sx,sy⟩,sd⟩,⟨⟨dx,dy⟩,dd⟩,ma,me⟩ (by first|exact hl0|exact hl1 _) hK).mono ?_|refine (kS2.out _ [_,_] _ _ _ _ _ ⟨mk,md,mn,⟨⟨sx,sy⟩,sd⟩,⟨⟨dx,dy⟩,dd⟩,ma,me⟩ (by first|exact hl20|exact hl21 _) hK).mono ?_|refine (kS1.out _ [_,_] _ _ _ _ _ mvZ (by first|exact hl0|exact hl1 _) hK).mono ?_|refine (kS2.out _ [_,_] _ _ _ _ _ mvZ (by first|exact hl20|exact hl21 _) hK).mono ?_);clear hK;rintro e w' ⟨rfl,sa',sc',hK⟩;simp only [rDd,ddCells,ConfV.cells,List.cons_append,List.nil_append] at hK))
    |(go_at_call 82;(first|(have hck:=(show Know _ _ _ (_::_::_::_::rMany (robsD c ps rs1)::_) _ from hK);refine (kL1.out _ hK.own).mono ?_)|(have hck:=(show Know _ _ _ (_::_::_::_::rMany (robsD c ps rs2)::_) _ from hK);refine (kL2.out _ hK.own).mono ?_));clear hck;rintro e w' ⟨adt,rfl,hT⟩;replace hK:=hK.push1 hT;clear hT)
    |((with_reducible refine wt 67 ?_);(refine al_app (xs:=out) hK teleTyW rfl rfl rfl rfl rfl hK.rd (by simp only [List.length_cons,List.length_nil];unfold maxLen;omega) (by simp only [List.length_cons,List.length_nil];omega) (h:=?_);clear hK;intro ad2 N2 cap2 w67 hN2 hK;simp only [z0,z1] at hK))
    |(refine sl ?_)
    |((with_reducible refine wl_at ?_);first|refine al ?_|refine Held.out ?_)
    |(with_reducible refine Two.mk (fun h=>?_) (fun h=>?_)<;>go_prune)
    |(with_reducible refine en ?_)
    |(with_reducible refine ret_at ?_)
    |(with_reducible refine fun (w':World) (b:Nat) hK'=>?_;clear hK;have hK:=hK';clear hK')
    |(with_reducible refine fun (w':World) hK'=>?_;clear hK;have hK:=hK';clear hK')
    |(with_reducible refine fun (b k:Nat) hat=>?_))
   · refine ⟨N - (j+1),[(4,.int .i64 ((j+1:Nat):Int)),(3,.slice oa on oc),(0,.pointer (some ⟨wp,0,none⟩))],_,by omega,rfl,.cons rfl (.cons rfl (.cons rfl .nil)),j+1,oa,on,oc,_,out,rfl,rfl,by omega,E0.out (by omega),hon,by omega,?_⟩
     exact kZ.out _ [_] _ _ _ _ (hK.sub (.cons _ (List.Sublist.refl _)))
   all_goals
    refine ⟨N - (j+1),[(4,.int .i64 ((j+1:Nat):Int)),(3,.slice ad2 N2 cap2),(0,.pointer (some ⟨wp,0,none⟩))],_,by omega,rfl,.cons rfl (.cons rfl (.cons rfl .nil)),j+1,ad2,N2,cap2,_,_,rfl,rfl,by omega,(by first|exact E1.out (by omega) (by show ¬ (mk=3\/mk=4);omega)|exact E2.out (by omega) (by show ¬ (mk=3\/mk=4);omega)|exact E3.out (by omega) (by show mk=3\/mk=4;omega)|exact E4.out (by omega) (by show mk=3\/mk=4;omega)),hN2,by rw [hN2,List.length_append];simp only [List.length_cons,List.length_nil];omega,?_⟩
    first|exact kZ.out _ [_] _ _ _ _ (hK.sub (.cons _ (.cons _ (List.Sublist.refl _))))|exact kZ2.out _ [_] _ _ _ _ (hK.sub (.cons _ (.cons _ (List.Sublist.refl _))))
 · obtain rfl:j=N:=by omega
   clear hok
   simp only [rDd,ddCells,ConfV.cells,List.cons_append,List.nil_append] at hK
   repeat' (first
    |(refine sl ?_)
    |((with_reducible refine wl_at ?_);first|refine al ?_|refine Held.out ?_)
    |(with_reducible refine Two.mk (fun h=>?_) (fun h=>?_)<;>go_prune)
    |(with_reducible refine en ?_)
    |(with_reducible refine ret_at ?_)
    |(with_reducible refine fun (w':World) (b:Nat) hK'=>?_;clear hK;have hK:=hK';clear hK')
    |(with_reducible refine fun (w':World) hK'=>?_;clear hK;have hK:=hK';clear hK')
    |(with_reducible refine fun (b k:Nat) hat=>?_))
   refine al_ret1 rfl Vis.sl ?_
   rw [HT.out]
   subst hon
   exact ⟨oa,oc,rfl,(Know.shutD (m:=wm) [_] hlen hK).turns⟩
end Go.Proofs.YtngeeilkpnihmaaGreatDoor
namespace Go.Proofs.YtngeeilkpnihmaaGreatDoor
open Go Go.Sk Go.RowKit
set_option maxRecDepth 100000
attribute [local irreducible] wpList Code.wp Calls
theorem teleEqT:eqTy Tryz.prog 58 teleKs=true:=by kernel_rfl
theorem list_split {α:Type} [DecidableEq α] {l1 l2:List α} {j:Nat} {u v:α} (h1:l1[j]?=some u) (h2:l2[j]?=some v) (hne: ¬ u=v):decide (l1=l2)=false:=decide_eq_false (by
 rintro rfl
 rw [h1] at h2
 injection h2 with h2
 exact hne h2)
theorem list_all {α:Type} [DecidableEq α] {l1 l2:List α} (hl:l1.length=l2.length) (h: ∀ j,j<l1.length->l1[j]?=l2[j]?):decide (l1=l2)=true:=decide_eq_true (List.ext_getElem? (fun i=>by
 by_cases hi:i<l1.length
 · exact h i hi
 · rw [List.getElem?_eq_none (by omega),List.getElem?_eq_none (by omega)]))
set_option maxHeartbeats 1000000 in
theorem sameT {ad1 ad2:Option Addr} {c1 c2:Nat} {l1 l2:List Tele} {w:World} (h1:Rd w elTele (.slice ad1 l1.length c1) l1) (h2:Rd w elTele (.slice ad2 l2.length c2) l2) (hl:l1.length<=1000000):Calls Tryz.prog 55 #[.slice ad1 l1.length c1,.slice ad2 l2.length c2] w (Ret (.bool (decide (l1=l2))) w):=by
 have hK:Know w w none' [] [rRd elTele (.slice ad1 l1.length c1) l1,rRd elTele (.slice ad2 l2.length c2) l2]:=Know.start (L:=[rRd elTele (.slice ad1 l1.length c1) l1,rRd elTele (.slice ad2 l2.length c2) l2]) w (by
  intro r hr
  simp only [List.mem_cons,List.not_mem_nil,or_false] at hr
  rcases hr with rfl|rfl
  · exact h1.has
  · exact h2.has)
 clear h1 h2
 refine calls_al _ Tryz.func55 rfl Tryz.ntmps55 (Nat.le_of_ble_eq_true rfl) ?_
 simp only [parL,Nat.reduceAdd]
 repeat' (first
  |(with_reducible refine wc_at (x:=.loop _) ?_;refine Held.out ?_)
  |(refine sl ?_)
  |((with_reducible refine wl_at ?_);first|refine al ?_|refine Held.out ?_)
  |(with_reducible refine Two.mk (fun h=>?_) (fun h=>?_)<;>go_prune)
  |(with_reducible refine en ?_)
  |(with_reducible refine ret_at ?_)
  |(with_reducible refine fun (w':World) (b:Nat) hK'=>?_;clear hK;have hK:=hK';clear hK')
  |(with_reducible refine fun (w':World) hK'=>?_;clear hK;have hK:=hK';clear hK')
  |(with_reducible refine fun (b k:Nat) hat=>?_))
 · refine ⟨al_loop (fun k live W=> ∃ (j:Nat),live=[(5,.int .i64 (j:Int)),(0,.slice ad1 l1.length c1),(1,.slice ad2 l2.length c2)]/\k=l1.length - j/\j<=l1.length/\(∀ i,i<j->l1[i]?=l2[i]?)/\Know w W none' [] [rRd elTele (.slice ad1 l1.length c1) l1,rRd elTele (.slice ad2 l2.length c2) l2]) l1.length [(5,.int .i64 ((0:Nat):Int)),(0,.slice ad1 l1.length c1),(1,.slice ad2 l2.length c2)] (.cons rfl (.cons rfl (.cons rfl .nil))) ⟨0,rfl,rfl,by omega,(fun i hi=>absurd hi (by omega)),hK⟩ ?_⟩
   clear hK
   rintro k live z w1 ⟨j,rfl,hk,hj,hs,hK⟩
   simp only [List.cons_append,List.nil_append]
   by_cases hlt:j<l1.length
   · obtain ⟨u,hu⟩: ∃ u,l1[j]?=some u:=⟨_,List.getElem?_eq_getElem hlt⟩
     obtain ⟨v,hv⟩: ∃ v,l2[j]?=some v:=⟨_,List.getElem?_eq_getElem (by omega)⟩
     repeat' (first
      |((with_reducible refine tx 6 hK ?_);clear hK;intro w' hK)
      |((with_reducible refine wt 19 ?_);(refine al_ix (i:=j) (u:=u) (xs:=l1) (E:=elTele) hK rfl rfl rfl rfl rfl (by right;repeat (first|exact MemS.rd|apply MemS.tail)) (aggS (by decide)) hu ?_))
      |((with_reducible refine wt 23 ?_);(refine al_ix (i:=j) (u:=v) (xs:=l2) (E:=elTele) hK rfl rfl rfl rfl rfl (by right;repeat (first|exact MemS.rd|apply MemS.tail)) (aggS (by decide)) hv ?_))
      |((with_reducible refine wt 25 ?_);(refine al_neqL (xs:=Tele.cells u) (ys:=Tele.cells v) (ht:=⟨teleEqT⟩) rfl rfl rfl rfl rfl (Tele.ks _) (Tele.ks _) (fun h=>?_) (fun h=>?_);all_goals rw [Tele.eq] at h))
      |(refine sl ?_)
      |((with_reducible refine wl_at ?_);first|refine al ?_|refine Held.out ?_)
      |(with_reducible refine Two.mk (fun h=>?_) (fun h=>?_)<;>go_prune)
      |(with_reducible refine en ?_)
      |(with_reducible refine ret_at ?_)
      |(with_reducible refine fun (w':World) (b:Nat) hK'=>?_;clear hK;have hK:=hK';clear hK')
      |(with_reducible refine fun (w':World) hK'=>?_;clear hK;have hK:=hK';clear hK')
      |(with_reducible refine fun (b k:Nat) hat=>?_))
     · obtain rfl:u=v:=of_decide_eq_true h
       refine ⟨l1.length - (j+1),[(5,.int .i64 ((j+1:Nat):Int)),(0,.slice ad1 l1.length c1),(1,.slice ad2 l2.length c2)],_,by omega,rfl,.cons rfl (.cons rfl (.cons rfl .nil)),j+1,rfl,rfl,by omega,(fun i hi=>?_),hK⟩
       by_cases hij:i=j
       · rw [hij,hu,hv]
       · exact hs i (by omega)
     · refine al_ret1 rfl Vis.bool ⟨?_,hK.mod⟩
       rw [list_split hu hv (of_decide_eq_false h)]
   · repeat' (first
      |(refine sl ?_)
      |((with_reducible refine wl_at ?_);first|refine al ?_|refine Held.out ?_)
      |(with_reducible refine Two.mk (fun h=>?_) (fun h=>?_)<;>go_prune)
      |(with_reducible refine en ?_)
      |(with_reducible refine ret_at ?_)
      |(with_reducible refine fun (w':World) (b:Nat) hK'=>?_;clear hK;have hK:=hK';clear hK')
      |(with_reducible refine fun (w':World) hK'=>?_;clear hK;have hK:=hK';clear hK')
      |(with_reducible refine fun (b k:Nat) hat=>?_))
     refine al_ret1 rfl Vis.bool ⟨?_,hK.mod⟩
     rw [list_all (by omega) (fun i hi=>hs i (by omega))]
 · refine al_ret1 rfl Vis.bool ⟨?_,hK.mod⟩
   rw [show decide (l1=l2)=false from decide_eq_false (by rintro rfl;omega)]
theorem hear_len (c:ConfP) (m:WM) (t:Tele):(m.hear c t).2.length<=1:=by
 unfold WM.hear
 split
 · split
   · show (RM.hear _ _ _ _ _).2.1.length<=1
     unfold RM.hear RM.goes RM.stops
     repeat' split
     all_goals simp
   · simp
 · simp
theorem Know.hearsX {f:FuncId} {args:Array Value} {w0 w:World} {F:Nat->Prop} {M L L':List Res} {r r':Res} {i:Nat} {T:Option Addr->Nat->Res} {V:Option Addr->Nat->Value} (h:Know w0 w F M L) (hL: ∀ r∈L',r∈L)
 (hc: ∀ S,Know w w S [r] L'->Calls Tryz.prog f args w fun e w'=> ∃ ad cap,e=.returned (V ad cap)/\Turns [T ad cap,r'] w w' S) (hi:Ix M r i:=by repeat (first|exact Ix.head|apply Ix.tail)):
 Calls Tryz.prog f args w fun e w'=> ∃ ad cap,e=.returned (V ad cap)/\Know w0 w' F (T ad cap::M.set i r') L:=by
 obtain ⟨A,B,rfl,hset⟩:=hi.hole
 have h1:Know w0 w F ([r]++(A++B)) L:=h.perm List.perm_middle
 obtain ⟨S1,hKS,back⟩:=Know.focus h1
 refine (hc S1 (hKS.subL hL)).mono ?_
 rintro e w' ⟨ad,cap,rfl,hT⟩
 refine ⟨ad,cap,rfl,?_⟩
 rw [hset]
 exact (back _ _ hT).perm (List.Perm.cons _ (show (r'::(A++B)).Perm (A++r'::B) from List.perm_middle.symm))
structure Op19 where
 kind:Int
 robot:Int
 n:Int
 t:Tele
def Op19.cells (o:Op19):List Value:=[.int .i64 o.kind,.int .i64 o.robot,.int .i64 o.n]++o.t.cells
abbrev elOp19:El Op19:=⟨Op19.cells,22,fun _=>rfl,fun x v hv=>by
 simp only [Op19.cells,List.mem_append,List.mem_cons,List.not_mem_nil,or_false] at hv
 rcases hv with (rfl|rfl|rfl)|hv
 · rfl
 · rfl
 · rfl
 · exact elTele.one x.t v hv⟩
def op19Ks:List (Option IntKind):=[some .i64,some .i64,some .i64]++teleKs
theorem ofk_op19: ∀ cs,ofKinds op19Ks cs=true-> ∃ x,cs=elOp19.cells x:=by
 intro cs h
 match cs,h with
 |[.int .i64 k,.int .i64 r,.int .i64 n,.int .i64 a,.int .i64 b,.int .i64 c,.int .i64 d,.int .i64 e,.int .i64 f,.int .i64 g,.int .i64 h1,.int .i64 h2,.bool h3,.int .i64 i1,.int .i64 i2,.bool i3,.int .i64 j,.int .i64 l,.int .i64 p1,.int .i64 p2,.bool p3,.int .i64 q],_=>
  exact ⟨⟨k,r,n,⟨a,b,c,d,⟨e,f,g,⟨⟨h1,h2⟩,h3⟩,⟨⟨i1,i2⟩,i3⟩,j,l⟩,⟨⟨p1,p2⟩,p3⟩,q⟩⟩,rfl⟩
theorem op19_n {o:Op19} (h: ∀ u∈El.cells elOp19 o,okNum u):o.t.move.n<=9223372036854775807:=
 (okNum_i64 (h (.int .i64 o.t.move.n) (by simp [Op19.cells,Tele.cells,Go.Sk.Move.cells]))).2
structure WInv (c:ConfP) (N k:Nat) (m:WM):Prop where
 ok:WOk c m k
 len:m.rs.length=N
 seen:m.l.length<=40*k
 now:0<=m.now/\m.now<=k
theorem WInv.more {c:ConfP} {N k k':Nat} {m:WM} (h:WInv c N k m) (hk:k<=k'):WInv c N k' m:=
 ⟨fun i r hr=>(h.ok i r hr).more (by omega),h.len,by have:=h.seen;omega,h.now.1,by have:=h.now.2;omega⟩
theorem hear_is {c:ConfP} (m:WM) (t:Tele):(m.hear c t).1.rs.length=m.rs.length/\(m.hear c t).1.now=m.now/\(m.hear c t).1.l.length<=m.l.length+1/\(m.hear c t).1.s=m.s:=by
 unfold WM.hear
 split
 · split
   · refine ⟨by simp [WM.see],rfl,?_,rfl⟩
     rw [see_len]
     unfold heardS
     repeat' split
     all_goals simp
   · exact ⟨rfl,rfl,Nat.le_succ _,rfl⟩
 · exact ⟨rfl,rfl,Nat.le_succ _,rfl⟩
theorem hearD_is {c:ConfP} (m:WM) (t:Tele):(m.hearD c t).1.rs.length=m.rs.length/\(m.hearD c t).1.now=m.now/\(m.hearD c t).1.l.length<=m.l.length+1/\(m.hearD c t).1.s=m.s:=by
 unfold WM.hearD
 split
 · split
   · refine ⟨by simp [WM.see],rfl,?_,rfl⟩
     rw [see_len]
     unfold heardS
     repeat' split
     all_goals simp
   · exact ⟨rfl,rfl,Nat.le_succ _,rfl⟩
 · exact ⟨rfl,rfl,Nat.le_succ _,rfl⟩
theorem WOk.hearD {c:ConfP} {m:WM} {n:Int} {t:Tele} (hm:MayP c) (h:WOk c m n) (hn:0<=n):WOk c (m.hearD c t).1 (n+1):=by
 unfold WM.hearD
 split
 · split
   · rename_i r hr
     exact h.set (by omega) rfl (RMOk.hearD (kinOf_ok hm) (h _ r hr) hn)
   · exact fun i r hr=>(h i r hr).more (by omega)
 · exact fun i r hr=>(h i r hr).more (by omega)
theorem WInv.hear {c:ConfP} {N k:Nat} {m:WM} (hm:MayP c) (t:Tele) (h:WInv c N k m):WInv c N (k+1) (m.hear c t).1:=by
 have hi:=hear_is (c:=c) m t
 have h1:=h.seen
 have h2:=h.now
 exact ⟨by have:=WOk.hear (t:=t) hm h.ok (by omega);simpa using this,hi.1.trans h.len,by omega,by rw [hi.2.1];omega⟩
theorem WInv.hearD {c:ConfP} {N k:Nat} {m:WM} (hm:MayP c) (t:Tele) (h:WInv c N k m):WInv c N (k+1) (m.hearD c t).1:=by
 have hi:=hearD_is (c:=c) m t
 have h1:=h.seen
 have h2:=h.now
 exact ⟨by have:=WOk.hearD (t:=t) hm h.ok (by omega);simpa using this,hi.1.trans h.len,by omega,by rw [hi.2.1];omega⟩
theorem WInv.tick {c:ConfP} {N k:Nat} {m:WM} (hN:N<=8) (h:WInv c N k m):WInv c N (k+1) (m.tick c).1/\(m.tick c).2.length<=8:=by
 obtain ⟨q1,q2,q3,q4,q5⟩:=ticks_is (c:=c) m m.rs.length (Nat.le_refl _)
 have h0:=h.len
 have h1:=h.seen
 have h2:=h.now
 refine ⟨⟨by have:=WOk.tick h.ok;simpa using this,q1.trans h.len,?_,?_⟩,?_⟩
 · show (m.ticks c m.rs.length).1.l.length<=_;omega
 · show 0<=(m.ticks c m.rs.length).1.now/\(m.ticks c m.rs.length).1.now<=_;rw [q2];omega
 · show (m.ticks c m.rs.length).2.length<=_;omega
theorem WInv.delay {c:ConfP} {N k:Nat} {m:WM} (j d:Int) (h:WInv c N k m):WInv c N k (m.delay j d):=by
 unfold WM.delay
 split
 · rename_i hj
   refine ⟨?_,by show (m.rs.set _ _).length=N;rw [List.length_set];exact h.len,h.seen,h.now⟩
   have hl:j.toNat<m.rs.length:=by omega
   exact h.ok.set (Int.le_refl _) rfl (by
    rw [List.getD_eq_getElem?_getD,List.getElem?_eq_getElem hl]
    exact (h.ok _ _ (List.getElem?_eq_getElem hl)).hold)
 · exact h
theorem WInv.start {c:ConfP} (hwf: ∀ p∈c.robots,WfP p):WInv c c.robots.length 0 (WM.start c):=by
 refine ⟨fun i r hr=>?_,by simp [WM.start],by simp [WM.start],by simp [WM.start]⟩
 have hr:(c.robots.map RM.start)[i]?=some r:=hr
 rw [List.getElem?_map] at hr
 cases hx:c.robots[i]? with
 |none=>rw [hx] at hr;cases hr
 |some u=>
  rw [hx] at hr
  injection hr with hr
  subst hr
  exact RMOk.start (hwf u (List.mem_of_getElem? hx))
end Go.Proofs.YtngeeilkpnihmaaGreatDoor
