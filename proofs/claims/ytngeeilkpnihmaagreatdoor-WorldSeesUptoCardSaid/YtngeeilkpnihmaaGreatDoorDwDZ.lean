/- The document's world: New. -/
import Derived.Test.YtngeeilkpnihmaaGreatDoorDwAZ
import Derived.Test.YtngeeilkpnihmaaGreatDoorWdbZ
set_option linter.all false
namespace Go.Proofs.YtngeeilkpnihmaaGreatDoor
open Go Go.Sk Go.RowKit
set_option maxRecDepth 100000
theorem robsD_snoc {c:ConfV} {ps:List Nat} {rs:List RM} {p:Nat} {r:RM} (h:ps.length=rs.length):robsD c (ps++[p]) (rs++[r])=robsD c ps rs++[rDR c (rs.length:Int) p r]:=by
 unfold robsD
 rw [List.length_append,show rs.length+[r].length=rs.length+1 from rfl,List.range_succ,List.map_append,List.map_cons,List.map_nil]
 congr 1
 · apply List.map_congr_left
   intro i hi
   have:=List.mem_range.1 hi
   rw [List.getD_eq_getElem?_getD,List.getD_eq_getElem?_getD,List.getD_eq_getElem?_getD,List.getD_eq_getElem?_getD,List.getElem?_append_left (by omega),List.getElem?_append_left (by omega)]
 · rw [List.getD_eq_getElem?_getD,List.getD_eq_getElem?_getD,List.getElem?_append_right (by omega),List.getElem?_append_right (by omega),h]
   simp
theorem new18_dr {c:ConfV} {u:Pose} {j p:Nat} {w:World} {S:Nat->Prop} (h:(rBlk p (new18 c j u) 116).p w S):(rDR c j p (RM.start u)).p w S:=rDR_p.2 ⟨⟨0,0,0,false⟩,h⟩
set_option maxHeartbeats 4000000 in
theorem dw_new {c:ConfV} {w:World} (hc:Has w (rConf c)) (hu:Upto c) (hm:MayP c.p):Calls Tryz.prog 27 #[.agg c.cells.toArray] w fun e w'=> ∃ q,e=.returned (.pointer (some ⟨q,0,none⟩))/\Turn (rDW c q (WM.start c.p)) w w' none':=by
 have hK:Know w w none' [] [rConf c]:=Know.start (L:=[rConf c]) w (by simpa using hc)
 clear hc
 have kS:=Lib.hid (fun (W:World) (h:Has W (rConf c))=>rf_new h hu hm)
 obtain ⟨N,hN⟩: ∃ N,c.robots.l.length=N:=⟨_,rfl⟩
 have hN8:N<=8:=by rw [<-hN];exact hm.robots8
 have HN:=Lib.hid hN
 have hlenV:c.robots.val=.slice c.robots.ad N c.robots.cap:=by subst hN;rfl
 have HLV:=Lib.hid hlenV
 clear hN hlenV
 go_enter Tryz.func27,Tryz.ntmps27
 go_wp2_with (first
  |((with_reducible refine wb 1 ?_)
    (refine wl_boxK hK rfl rfl rfl rfl ?_;clear hK;intro w1 b1 hK))
  |(go_at_call 22;(refine (kS.out _ hK.lent).mono ?_;rintro e w' ⟨sp,rfl,hT⟩;replace hK:=hK.push1 hT;clear hT))
  |((with_reducible refine wt 16 ?_);(refine wl_pure (v:=.agg (c.cells++([.slice none 0 0,.pointer (some ⟨sp,0,none⟩),.int .i64 0,.slice none 0 0]:List Value)).toArray) rfl (fun W=>by kernel_rfl) ?_))
  |((with_reducible refine wb 17 ?_);(refine wl_boxK (zs:=c.cells++[.slice none 0 0,.pointer (some ⟨sp,0,none⟩),.int .i64 0,.slice none 0 0]) hK rfl rfl rfl rfl ?_;clear hK;intro w17 b17 hK))
  |go_big_skip
  |((with_reducible refine wl ?_);refine ldKQ ?_)
  |(with_reducible refine en ?_))
 replace hK:=(hK.nil 111 elPtr).push1 (r:=rMany []) ⟨Mod.refl _ _,fun _=>False,rMany_p.2 (fun _ h=>h),fun _ h=>h.elim⟩
 go_loopg [6] N (fun k t6 wr=> ∃ (j:Nat) (ps:List Nat) (ra:Option Addr) (n rc:Nat),t6=.int .i64 j/\k=N - j/\j<=N/\Hid (n=ps.length)/\Hid (ps.length=j)/\Know w wr none' [rMany (robsD c ps ((c.robots.l.take j).map RM.start)),rOw 111 elPtr (.slice ra n rc) ps,rBlk b17 (c.cells++[.slice ra n rc,.pointer (some ⟨sp,0,none⟩),.int .i64 0,.slice none 0 0]) 110,rREF c sp (SM.start c.p),rBlk b1 c.cells 26] [rConf c])
 case atStart=>exact ⟨0,[],none,0,0,rfl,rfl,by omega,rfl,rfl,hK⟩
 case round=>
  clear hK
  obtain ⟨j,ps,ra,n,rc,rfl,rfl,hj,hn,hps,hK⟩:=hrel
  have hn2:n<=8:=by have h1:=hn.out;have h2:=hps.out;omega
  by_cases hlt:j<N
  · have dl:decide ((j:Int)<(N:Int))=true:=decide_eq_true (by omega)
    obtain ⟨u,hu2⟩: ∃ u,c.robots.l[j]?=some u:=⟨_,List.getElem?_eq_getElem (by rw [HN.out];exact hlt)⟩
    have HT:=Lib.hid (show (c.robots.l.take (j+1)).map RM.start=(c.robots.l.take j).map RM.start++[RM.start u] by rw [List.take_add_one,hu2,List.map_append];rfl)
    have HTL:=Lib.hid (show ((c.robots.l.take j).map RM.start).length=j by rw [List.length_map,List.length_take,HN.out];omega)
    have kR:=Lib.hid (fun (W:World) (h:Has W (rConf c))=>ref18_new h hu2 (by omega))
    clear hu2
    go_wp2_with (first
     |((with_reducible refine wt 20 ?_);(refine wl_loadK (v:=.slice c.robots.ad N c.robots.cap) hK rfl rfl rfl (scalT (by decide)) (hv:=by rw [<-HLV.out];rfl) (h:=?_)))
     |((with_reducible refine wp_region_lastK (id:=8) hK [4] [rBlk b17 (c.cells++[.slice ra n rc,.pointer (some ⟨sp,0,none⟩),.int .i64 0,.slice none 0 0]) 110] (by kernel_rfl) (by kernel_rfl) (by simp) (by kernel_rfl) ?_);clear hK;intro w' hK;simp only [List.dropLast])
     |(with_reducible refine wpC_of ?_)
     |(with_reducible refine atEndC (hK.cls (by simp)) ?_)
     |((with_reducible refine wpC_end' ?_);refine wpC_nil ⟨by kernel_rfl,stays_loadK rfl rfl rfl rfl (scalT (by decide)) rfl (rest:=stays_nil),?_⟩;show wpList _ _ _ [_] _ _)
     |(go_at_call 54;(refine (kR.out _ hK.lent).mono ?_;rintro e w' ⟨p,rfl,hT⟩;replace hK:=hK.push1 hT;clear hT))
     |((with_reducible refine wt 33 ?_);(refine wl_buildK 111 elPtr [p] hK rfl rfl (fun W=>by kernel_rfl) rfl (by decide) ?_;clear hK;intro adb w33 hK))
     |((with_reducible refine wt 34 ?_)
       (refine wl_appK (xs:=ps) (ys:=[p]) hK ptrTyR rfl rfl rfl rfl hK.rd (by have h1:=hps.out;simp;unfold maxLen;omega) (by have h1:=hps.out;simp;omega) (h:=?_);clear hK;intro ad2 N2 cap2 w34 hN2 hK;replace hN2:=Lib.hid hN2;simp only [z0,z1] at hK))
     |((with_reducible refine wl_at (o:=⟨none,.store 108 (.tmp 36) _,_,_,_,_⟩) ?_);(refine wl_storeK (v:=.slice ad2 N2 cap2) hK rfl rfl rfl rfl (sizT (by decide)) rfl (hk:=by simp [ConfV.cells]) (h:=?_);clear hK;intro w' hK;replace hK:Know w w' none' [rOw 111 elPtr (.slice adb 1 1) [p],rBlk p (new18 c j u) 116,rMany (robsD c ps ((c.robots.l.take j).map RM.start)),rOw 111 elPtr (.slice ad2 N2 cap2) (ps++[p]),rBlk b17 (c.cells++[.slice ad2 N2 cap2,.pointer (some ⟨sp,0,none⟩),.int .i64 0,.slice none 0 0]) 110,rREF c sp (SM.start c.p),rBlk b1 c.cells 26] [rConf c]:=hK))
     |go_big_skip
     |((with_reducible refine wl ?_);refine ldKQ ?_)
     |(with_reducible refine en ?_))
    go_roundg (N - (j+1))
    case measure=>omega
    case rel=>
     replace hK:=((hK.sub (.cons _ (List.Sublist.refl _))).seen (r':=rDR c j p (RM.start u)) (fun _ _ hh=>new18_dr hh) .head).putLast
     refine ⟨j+1,ps++[p],ad2,N2,cap2,by go_num,rfl,by omega,hN2,by show _=_;rw [List.length_append,hps.out];rfl,?_⟩
     rw [HT.out,robsD_snoc (by rw [HTL.out];exact hps.out),HTL.out]
     exact hK
  · have hjN:j=N:=by omega
    subst hjN
    have dl:decide ((j:Int)<(j:Int))=false:=decide_eq_false (by omega)
    have HT:=Lib.hid (show (c.robots.l.take j).map RM.start=c.robots.l.map RM.start by rw [List.take_of_length_le (by rw [HN.out];exact Nat.le_refl _)])
    go_wp2_with (first
     |((with_reducible refine wt 20 ?_);(refine wl_loadK (v:=.slice c.robots.ad j c.robots.cap) hK rfl rfl rfl (scalT (by decide)) (hv:=by rw [<-HLV.out];rfl) (h:=?_)))
     |go_big_skip
     |((with_reducible refine wl ?_);refine ldKQ ?_)
     |(with_reducible refine en ?_))
    go_ret
    have hh:=hn.out
    subst hh
    rw [HT.out] at hK
    replace hK:=hK.nil 43 elSight
    replace hK:=hK.order [3,4,1,2,0]
    simp only [List.filterMap_cons,List.filterMap_nil,List.getElem?_cons_succ,List.getElem?_cons_zero,List.length_cons,List.length_nil,Nat.reduceAdd,List.drop_succ_cons,List.drop_zero,List.cons_append,List.nil_append] at hK
    refine ⟨b17,rfl,Turns.dwd (sp:=sp) (ra:=ra) (rc:=rc) (ps:=ps) (sa:=none) (sc:=0) (m:=WM.start c.p) ?_ (hK.sub (.cons_cons _ (.cons_cons _ (.cons_cons _ (.cons_cons _ (.cons_cons _ (.cons _ .slnil))))))).turns⟩
    rw [hps.out,<-HN.out]
    simp [WM.start]
    rfl
end Go.Proofs.YtngeeilkpnihmaaGreatDoor
