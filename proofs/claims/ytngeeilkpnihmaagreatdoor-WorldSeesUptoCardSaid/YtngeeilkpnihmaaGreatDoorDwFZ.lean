/- WorldTwice: two worlds that hear the same are the same. -/
import Derived.Test.YtngeeilkpnihmaaGreatDoorDwEZ
import Derived.Test.YtngeeilkpnihmaaGreatDoorWb1Z
set_option linter.all false
namespace Go.Proofs.YtngeeilkpnihmaaGreatDoor
open Go Go.Sk Go.RowKit
set_option maxRecDepth 100000
attribute [local irreducible] wpList Code.wp Calls
theorem sightEqT:eqTy Tryz.prog 43 sightKs=true:=by kernel_rfl
theorem sight_refl (u:Sight):cellsEq u.cells u.cells=true:=by
 obtain ⟨a,b,c,d,⟨⟨x,y⟩,z⟩,⟨e,f,g,⟨⟨x1,y1⟩,z1⟩,⟨⟨x2,y2⟩,z2⟩,h,i⟩⟩:=u
 simp [Sight.cells,Go.Sk.Move.cells,Pose.cells,Cell.cells,cellsEq,Go.Sk.cellEq]
set_option maxHeartbeats 1000000 in
theorem same_sights {ad1 ad2:Option Addr} {c1 c2:Nat} {l:List Sight} {w:World} (h1:Rd w elSight (.slice ad1 l.length c1) l) (h2:Rd w elSight (.slice ad2 l.length c2) l) (hl:l.length<=1000000000):Calls Tryz.prog 24 #[.slice ad1 l.length c1,.slice ad2 l.length c2] w (Ret (.bool true) w):=by
 have hK:Know w w none' [] [rRd elSight (.slice ad1 l.length c1) l,rRd elSight (.slice ad2 l.length c2) l]:=Know.start (L:=[rRd elSight (.slice ad1 l.length c1) l,rRd elSight (.slice ad2 l.length c2) l]) w (by
  intro r hr
  simp only [List.mem_cons,List.not_mem_nil,or_false] at hr
  rcases hr with rfl|rfl
  · exact h1.has
  · exact h2.has)
 clear h1 h2
 refine calls_al _ Tryz.func24 rfl Tryz.ntmps24 (Nat.le_of_ble_eq_true rfl) ?_
 simp only [parL,Nat.reduceAdd]
 repeat' (first
  |(with_reducible refine wc_at (x:=.loop _) ?_;refine Held.out ?_)
  |(refine sl ?_)
  |((with_reducible refine wl_at ?_);first|refine al ?_|refine Held.out ?_)
  |(with_reducible refine Two.mk (fun h=>?_) (fun h=>?_)<;>go_prune)
  |(with_reducible refine en ?_)
  |(with_reducible refine ret_at ?_)
  |(with_reducible refine fun (w':World) (b:Nat) hK'=>?_;clear hK;have hK:=hK';clear hK')
  |(with_reducible refine fun (w':World) hK'=>?_;clear hK;have hK:=hK';clear hK')
  |(with_reducible refine fun (b k:Nat) hat=>?_))
 · refine ⟨al_loop (fun nn live W=> ∃ (j:Nat),live=[(5,.int .i64 (j:Int)),(0,.slice ad1 l.length c1),(1,.slice ad2 l.length c2)]/\nn+j=l.length/\Know w W none' [] [rRd elSight (.slice ad1 l.length c1) l,rRd elSight (.slice ad2 l.length c2) l]) l.length [(5,.int .i64 ((0:Nat):Int)),(0,.slice ad1 l.length c1),(1,.slice ad2 l.length c2)] (.cons rfl (.cons rfl (.cons rfl .nil))) ⟨0,rfl,rfl,hK⟩ ?_⟩
   clear hK
   rintro nn live z w1 ⟨j,rfl,hk,hK⟩
   simp only [List.cons_append,List.nil_append]
   by_cases hlt:j<l.length
   · obtain ⟨u,hu⟩: ∃ u,l[j]?=some u:=⟨_,List.getElem?_eq_getElem hlt⟩
     repeat' (first
      |((with_reducible refine tx 6 hK ?_);clear hK;intro w' hK)
      |((with_reducible refine wt 19 ?_);(refine al_ix (i:=j) (u:=u) (xs:=l) (E:=elSight) hK rfl rfl rfl rfl rfl (by right;repeat (first|exact MemS.rd|apply MemS.tail)) (aggS (by decide)) hu ?_))
      |((with_reducible refine wt 23 ?_);(refine al_ix (i:=j) (u:=u) (xs:=l) (E:=elSight) hK rfl rfl rfl rfl rfl (by right;first|exact MemS.rd|exact .tail MemS.rd) (aggS (by decide)) hu ?_))
      |((with_reducible refine wt 25 ?_);(refine al_neqL (xs:=Sight.cells u) (ys:=Sight.cells u) (ht:=⟨sightEqT⟩) rfl rfl rfl rfl rfl (Sight.ks _) (Sight.ks _) (fun h=>?_) (fun h=>absurd ((sight_refl u).symm.trans h) (by decide))))
      |(refine sl ?_)
      |((with_reducible refine wl_at ?_);first|refine al ?_|refine Held.out ?_)
      |(with_reducible refine Two.mk (fun h=>?_) (fun h=>?_)<;>go_prune)
      |(with_reducible refine en ?_)
      |(with_reducible refine ret_at ?_)
      |(with_reducible refine fun (w':World) (b:Nat) hK'=>?_;clear hK;have hK:=hK';clear hK')
      |(with_reducible refine fun (w':World) hK'=>?_;clear hK;have hK:=hK';clear hK')
      |(with_reducible refine fun (b k:Nat) hat=>?_))
     exact ⟨nn - 1,[(5,.int .i64 ((j+1:Nat):Int)),(0,.slice ad1 l.length c1),(1,.slice ad2 l.length c2)],_,by omega,rfl,.cons rfl (.cons rfl (.cons rfl .nil)),j+1,rfl,by omega,hK⟩
   · repeat' (first
      |(refine sl ?_)
      |((with_reducible refine wl_at ?_);first|refine al ?_|refine Held.out ?_)
      |(with_reducible refine Two.mk (fun h=>?_) (fun h=>?_)<;>go_prune)
      |(with_reducible refine en ?_)
      |(with_reducible refine ret_at ?_)
      |(with_reducible refine fun (w':World) (b:Nat) hK'=>?_;clear hK;have hK:=hK';clear hK')
      |(with_reducible refine fun (w':World) hK'=>?_;clear hK;have hK:=hK';clear hK')
      |(with_reducible refine fun (b k:Nat) hat=>?_))
     exact al_ret1 rfl Vis.bool ⟨rfl,hK.mod⟩
theorem bins_bd {c:ConfP} {wp:Nat} {m:WM} {w:World} (h:Has w (rWLD c wp m)):(m.s.bins c).length<=9223372036854775807:=by
 obtain ⟨gp,sp,ra,rc,ps,sa,sc,hlen,hK⟩:=Has.wldK h
 have h1:Has w (rSTK c sp m.s):=hK.lent
 obtain ⟨s,rfl,h2,h3,h4,h5⟩:=Has.stk h1
 unfold SM.bins
 rw [sortI_len]
 have:(m.s.raw c).length<=270000:=raw_len (by assumption)
 omega
open Classical in
set_option maxHeartbeats 4000000 in
theorem twice_calls {c:ConfV} {sv1 sv2:Value} {l1 l2:List Op19} {w:World} (hc:Has w (rConf c)) (hst:Has w stepsR) (hu:Upto c) (hwf: ∀ p∈c.robots.l,PoseWf p) (h1:Rd w elOp19 sv1 l1) (hn1:l1.length<=1048576) (ho1: ∀ x∈l1,∀ u∈El.cells elOp19 x,okNum u) (h2:Rd w elOp19 sv2 l2) (hn2:l2.length<=1048576) (ho2: ∀ x∈l2,∀ u∈El.cells elOp19 x,okNum u):
 Calls Tryz.prog 7 #[.agg c.cells.toArray,sv1,sv2] w (Ret (.bool true) w):=by
 have hK:Know w w none' [] [rRd elOp19 sv1 l1,rRd elOp19 sv2 l2,rConf c,stepsR]:=Know.start (L:=[rRd elOp19 sv1 l1,rRd elOp19 sv2 l2,rConf c,stepsR]) w (by
  intro r hr
  simp only [List.mem_cons,List.not_mem_nil,or_false] at hr
  rcases hr with rfl|rfl|rfl|rfl
  · exact h1.has
  · exact h2.has
  · exact hc
  · exact hst)
 obtain ⟨sa1,sc1,rfl⟩:=h1.vee
 obtain ⟨sa2,sc2,rfl⟩:=h2.vee
 clear hc hst h1 h2
 obtain ⟨sm,hsm⟩: ∃ sm,decide (smallB c.p)=sm:=⟨_,rfl⟩
 have HS:=Lib.hid hsm
 have kAw:=Lib.hid (fun (W:World) (h:Has W stepsR)=>awake19 h)
 cases sm with
 |false=>
  clear hsm
  refine calls_al _ Tryz.func7 rfl Tryz.ntmps7 (Nat.le_of_ble_eq_true rfl) ?_
  simp only [parL,Nat.reduceAdd]
  repeat' (first
   |(go_at_call 8;(refine (hK.quiet (kn_small HS.out hu hK.lent)).mono ?_;clear hK;rintro e w' ⟨rfl,hK⟩))
   |(go_at_call 9;(refine (hK.quiet (kAw.out _ hK.lent)).mono ?_;clear hK;rintro e w' ⟨rfl,hK⟩))
   |(refine sl ?_)
   |((with_reducible refine wl_at ?_);first|refine al ?_|refine Held.out ?_)
   |(with_reducible refine Two.mk (fun h=>?_) (fun h=>?_)<;>go_prune)
   |(with_reducible refine en ?_)
   |(with_reducible refine ret_at ?_)
   |(with_reducible refine fun (w':World) (b:Nat) hK'=>?_;clear hK;have hK:=hK';clear hK')
   |(with_reducible refine fun (w':World) hK'=>?_;clear hK;have hK:=hK';clear hK')
   |(with_reducible refine fun (b k:Nat) hat=>?_))
  exact al_ret1 rfl Vis.bool ⟨rfl,hK.mod⟩
 |true=>
  have hm:MayP c.p:=(of_decide_eq_true hsm).2.2.2.2.2.2.2
  clear hsm
  have kP1:=Lib.hid (fun (W:World) (h1:Has W (rConf c)) (h2:Has W stepsR) (h3:Rd W elOp19 (.slice sa1 l1.length sc1) l1)=>play_calls hm hu hwf hn1 ho1 h1 h2 h3)
  have kP2:=Lib.hid (fun (W:World) (h1:Has W (rConf c)) (h2:Has W stepsR) (h3:Rd W elOp19 (.slice sa2 l2.length sc2) l2)=>play_calls hm hu hwf hn2 ho2 h1 h2 h3)
  have hlen:(playM c.p l1).1.l.length<=100000000:=by
   have:=((play_inv hm (fun p hp=>⟨(hwf p hp).x,(hwf p hp).y⟩) l1 50).1).seen
   unfold playM
   omega
  generalize (playM c.p l1).1=m1 at kP1 hlen
  generalize (playM c.p l2).1=m2 at kP2
  have kS:=Lib.hid (fun (W:World) (wp:Nat) (h:Has W (rWLD c.p wp m1))=>w_sights h hlen)
  have kN:=Lib.hid (fun (W:World) (wp:Nat) (h:Has W (rWLD c.p wp m1))=>w_now h)
  have kB:=Lib.hid (fun (W:World) (wp:Nat) (h:Has W (rWLD c.p wp m1))=>w_bins h)
  refine calls_al _ Tryz.func7 rfl Tryz.ntmps7 (Nat.le_of_ble_eq_true rfl) ?_
  simp only [parL,Nat.reduceAdd]
  repeat' (first
   |(go_at_call 8;(refine (hK.quiet (kn_small HS.out hu hK.lent)).mono ?_;clear hK;rintro e w' ⟨rfl,hK⟩))
   |((with_reducible refine wt 22 ?_);(refine al_call rfl rfl rfl (.cons .agg (.cons .sl .nil)) ?_;refine (kP1.out _ hK.lent hK.lent hK.rd).mono ?_;rintro e w' ⟨wp1,rfl,hT⟩;refine ⟨_,rfl,?_⟩;replace hK:=hK.push1 hT;clear hT))
   |((with_reducible refine wt 28 ?_);(refine al_call rfl rfl rfl (.cons .agg (.cons .sl .nil)) ?_;refine (kP2.out _ hK.lent hK.lent hK.rd).mono ?_;rintro e w' ⟨wp2,rfl,hT⟩;refine ⟨_,rfl,?_⟩;replace hK:=hK.push1 hT;clear hT))
   |((with_reducible refine wt 34 ?_);(refine al_call rfl rfl rfl (.cons .agg (.cons .sl .nil)) ?_;refine (kP1.out _ hK.lent hK.lent hK.rd).mono ?_;rintro e w' ⟨wp3,rfl,hT⟩;refine ⟨_,rfl,?_⟩;replace hK:=hK.push1 hT;clear hT))
   |(go_at_call 11;(refine (kS.out _ _ hK.own).mono ?_;rintro e w' ⟨adS,cpS,rfl,hT⟩;replace hK:=hK.push1 hT;clear hT))
   |(with_reducible refine wc_at (x:=.loop _) ?_;refine Held.out ?_)
   |(refine sl ?_)
   |((with_reducible refine wl_at ?_);first|refine al ?_|refine Held.out ?_)
   |(with_reducible refine Two.mk (fun h=>?_) (fun h=>?_)<;>go_prune)
   |(with_reducible refine en ?_)
   |(with_reducible refine ret_at ?_)
   |(with_reducible refine fun (w':World) (b:Nat) hK'=>?_;clear hK;have hK:=hK';clear hK')
   |(with_reducible refine fun (w':World) hK'=>?_;clear hK;have hK:=hK';clear hK')
   |(with_reducible refine fun (b k:Nat) hat=>?_))
  have hK1:=hK
  clear hK
  refine ⟨al_loop (fun nn live W=> ∃ (j:Nat) (xs:List Sight),live=[(14,.int .i64 (j:Int)),(13,.slice adS m1.l.length cpS),(7,.pointer (some ⟨wp1,0,none⟩)),(11,.pointer (some ⟨wp3,0,none⟩))]/\nn+j=m1.l.length/\xs.length=m1.l.length/\Know w W none' [rOw 43 elSight (.slice adS m1.l.length cpS) xs,rWLD c.p wp3 m1,rWLD c.p wp1 m1] [stepsR]) m1.l.length [(14,.int .i64 ((0:Nat):Int)),(13,.slice adS m1.l.length cpS),(7,.pointer (some ⟨wp1,0,none⟩)),(11,.pointer (some ⟨wp3,0,none⟩))] (.cons rfl (.cons rfl (.cons rfl (.cons rfl .nil)))) ⟨0,m1.l,rfl,rfl,rfl,(hK1.sub (.cons_cons _ (.cons_cons _ (.cons _ (.cons_cons _ (.cons _ .slnil)))))).subL (by simp)⟩ ?_⟩
  clear hK1
  rintro nn live z w1 ⟨j,xs,rfl,hn,hxs,hK⟩
  simp only [List.cons_append,List.nil_append]
  by_cases hlt:j<m1.l.length
  · obtain ⟨u,hu⟩: ∃ u,xs[j]?=some u:=⟨_,List.getElem?_eq_getElem (by omega)⟩
    obtain ⟨sk,st,sr,sb,⟨⟨px,py⟩,pd⟩,⟨mk,md,mn,⟨⟨sx,sy⟩,sd⟩,⟨⟨dx,dy⟩,dd⟩,ma,me⟩⟩:=u
    repeat' (first
     |((with_reducible refine wt 57 ?_);(refine al_ixO (i:=j) (xs:=xs) (E:=elSight) hK rfl rfl rfl rfl rfl (aggS (by decide)) hu (h:=?_);intro b57 k57 hat57 hsp))
     |((with_reducible refine wl_at (o:=⟨none,.store 3 _ _,_,_,_,_⟩) ?_);(refine al_storeEP (off:=1) (k:=k57) _ ⟨sk, -1,sr,sb,⟨⟨px,py⟩,pd⟩,⟨mk,md,mn,⟨⟨sx,sy⟩,sd⟩,⟨⟨dx,dy⟩,dd⟩,ma,me⟩⟩ hK rfl rfl rfl rfl rfl rfl .int (sizT (by decide)) rfl hsp hu (by repeat (first|exact Put.nil|apply Put.take|apply Put.drop)) (h:=?_);clear hK;intro w' hK;simp only [z0,z1] at hK))
     |(refine sl ?_)
     |((with_reducible refine wl_at ?_);first|refine al ?_|refine Held.out ?_)
     |(with_reducible refine Two.mk (fun h=>?_) (fun h=>?_)<;>go_prune)
     |(with_reducible refine en ?_)
     |(with_reducible refine ret_at ?_)
     |(with_reducible refine fun (w':World) (b:Nat) hK'=>?_;clear hK;have hK:=hK';clear hK')
     |(with_reducible refine fun (w':World) hK'=>?_;clear hK;have hK:=hK';clear hK')
     |(with_reducible refine fun (b k:Nat) hat=>?_))
    exact ⟨nn - 1,[(14,.int .i64 ((j+1:Nat):Int)),(13,.slice adS m1.l.length cpS),(7,.pointer (some ⟨wp1,0,none⟩)),(11,.pointer (some ⟨wp3,0,none⟩))],_,by omega,rfl,.cons rfl (.cons rfl (.cons rfl (.cons rfl .nil))),j+1,_,rfl,by omega,by rw [List.length_set];exact hxs,hK⟩
  · have hbd:=bins_bd (hK.own (r:=rWLD c.p wp1 m1))
    repeat' (first
     |(go_at_call 11;(refine (kS.out _ _ hK.own).mono ?_;rintro e w' ⟨adT,cpT,rfl,hT⟩;replace hK:=hK.push1 hT;clear hT))
     |(go_at_call 24;(refine (hK.quiet (same_sights hK.rd hK.rd (by omega))).mono ?_;clear hK;rintro e w' ⟨rfl,hK⟩))
     |(go_at_call 12;(refine (hK.quiet (kN.out _ _ hK.own)).mono ?_;clear hK;rintro e w' ⟨rfl,hK⟩))
     |(go_at_call 17;(refine (kB.out _ _ hK.own).mono ?_;rintro e w' ⟨adB,nB,cpB,rfl,hT⟩;replace hK:=hK.push1 hT;clear hT))
     |(go_at_call 21;(refine (hK.quiet (same_intsW (l:=m1.s.bins c.p) (l':=m1.s.bins c.p) (decide_eq_true rfl) hK.rd hK.rd hbd)).mono ?_;clear hK;rintro e w' ⟨rfl,hK⟩))
     |(go_at_call 9;(refine (hK.quiet (kAw.out _ hK.lent)).mono ?_;clear hK;rintro e w' ⟨rfl,hK⟩))
     |(refine sl ?_)
     |((with_reducible refine wl_at ?_);first|refine al ?_|refine Held.out ?_)
     |(with_reducible refine Two.mk (fun h=>?_) (fun h=>?_)<;>go_prune)
     |(with_reducible refine en ?_)
     |(with_reducible refine ret_at ?_)
     |(with_reducible refine fun (w':World) (b:Nat) hK'=>?_;clear hK;have hK:=hK';clear hK')
     |(with_reducible refine fun (w':World) hK'=>?_;clear hK;have hK:=hK';clear hK')
     |(with_reducible refine fun (b k:Nat) hat=>?_))
    all_goals first|exact al_ret1 rfl Vis.bool ⟨rfl,hK.mod⟩|(exfalso;omega)
end Go.Proofs.YtngeeilkpnihmaaGreatDoor
