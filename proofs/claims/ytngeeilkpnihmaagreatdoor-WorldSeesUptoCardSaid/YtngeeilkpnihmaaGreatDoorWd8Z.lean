/- The world: New. -/
import Derived.Test.YtngeeilkpnihmaaGreatDoorWdAZ
set_option linter.all false
namespace Go.Proofs.YtngeeilkpnihmaaGreatDoor
open Go Go.Sk Go.RowKit
set_option maxRecDepth 100000
theorem robsW_snoc {c:ConfP} {ps:List Nat} {rs:List RM} {p:Nat} {r:RM} (h:ps.length=rs.length):robsW c (ps++[p]) (rs++[r])=robsW c ps rs++[rROB c (rs.length:Int) p r]:=by
 unfold robsW
 rw [List.length_append,show rs.length+[r].length=rs.length+1 from rfl,List.range_succ,List.map_append,List.map_cons,List.map_nil]
 congr 1
 · apply List.map_congr_left
   intro i hi
   have:=List.mem_range.1 hi
   rw [List.getD_eq_getElem?_getD,List.getD_eq_getElem?_getD,List.getD_eq_getElem?_getD,List.getD_eq_getElem?_getD,List.getElem?_append_left (by omega),List.getElem?_append_left (by omega)]
 · rw [List.getD_eq_getElem?_getD,List.getD_eq_getElem?_getD,List.getElem?_append_right (by omega),List.getElem?_append_right (by omega),h]
   simp
set_option maxHeartbeats 4000000 in
theorem w_new {c:ConfV} {w:World} (hm:MayP c.p) (hc:Has w (rConf c)) (hst:Has w stepsR) (hz:Sized c) (hwf: ∀ p∈c.robots.l,PoseWf p):Calls Tryz.prog 16 #[.agg c.cells.toArray] w fun e w'=>
 ∃ wp,e=.returned (.tuple #[.pointer (some ⟨wp,0,none⟩),.int .i64 0])/\Turn (rWLD c.p wp (WM.start c.p)) w w' none':=by
 have hK:Know w w none' [] [rConf c,stepsR]:=Know.start (L:=[rConf c,stepsR]) w (by
  intro r hr
  simp only [List.mem_cons,List.not_mem_nil,or_false] at hr
  rcases hr with rfl|rfl
  · exact hc
  · exact hst)
 clear hc hst
 have kG:=Lib.hid (fun (W:World) (h1:Has W (rConf c)) (h2:Has W stepsR)=>(show Calls Tryz.prog 32 #[.agg c.cells.toArray] W fun e w'=> ∃ p,e=.returned (.tuple #[.pointer (some ⟨p,0,none⟩),.int .i64 0])/\Turn (rGRID c.p p) W w' none' from (g_new h1 h2 hz hwf).mono fun e w' h=>h.elim (fun h=>absurd hm h.1) fun h=>h.2))
 have kS:=Lib.hid (fun (W:World) (h1:Has W (rConf c)) (h2:Has W stepsR)=>(show Calls Tryz.prog 33 #[.agg c.cells.toArray] W fun e w'=> ∃ p,e=.returned (.tuple #[.pointer (some ⟨p,0,none⟩),.int .i64 0])/\Turn (rSTK c.p p (SM.start c.p)) W w' none' from (k_new h1 h2 hz hwf).mono fun e w' h=>h.elim (fun h=>absurd hm h.1) fun h=>h.2))
 have kR:=Lib.hid (fun (W:World) (j:Nat) (u:Pose) (hu:c.robots.l[j]?=some u) (h1:Has W (rConf c)) (h2:Has W stepsR)=>(show Calls Tryz.prog 34 #[.agg c.cells.toArray,.int .i64 j] W fun e w'=> ∃ p,e=.returned (.tuple #[.pointer (some ⟨p,0,none⟩),.int .i64 0])/\Turn (rROB c.p j p (RM.start u)) W w' none' from
  (rb_new (i:=(j:Int)) h1 h2 hz hwf).mono fun e w' h=>h.elim (fun h=>absurd hm h.1) fun h=>h.elim (fun h=>absurd (show (0:Int)<=j/\(j:Int)<c.robots.l.length from ⟨Int.natCast_nonneg j,by have:=(List.getElem?_eq_some_iff.1 hu).1;omega⟩) h.2.1) fun ⟨_,_,p,u',h1,h2,h3⟩=>⟨p,h2,by
    rw [Int.toNat_natCast,hu] at h1
    injection h1 with h1
    subst h1
    exact h3⟩))
 obtain ⟨N,hN⟩: ∃ N,c.robots.l.length=N:=⟨_,rfl⟩
 have hN8:N<=8:=by rw [<-hN];exact hm.robots8
 have HN:=Lib.hid hN
 have hlenV:c.robots.val=.slice c.robots.ad N c.robots.cap:=by subst hN;rfl
 clear hN
 go_enter Tryz.func16,Tryz.ntmps16
 go_wp2_with (first
  |((with_reducible refine wb 1 ?_)
    (refine wl_boxK hK rfl rfl rfl rfl ?_;clear hK;intro w1 b1 hK))
  |(go_at_call 32;(refine (kG.out _ hK.lent hK.lent).mono ?_;rintro e w' ⟨gp,rfl,hT⟩;replace hK:=hK.push1 hT;clear hT))
  |(go_at_call 33;(refine (kS.out _ hK.lent hK.lent).mono ?_;rintro e w' ⟨sp,rfl,hT⟩;replace hK:=hK.push1 hT;clear hT))
  |((with_reducible refine wt 27 ?_);(refine wl_pure (v:=.agg #[.pointer (some ⟨gp,0,none⟩),.pointer (some ⟨sp,0,none⟩),.slice none 0 0,.int .i64 0,.slice none 0 0]) rfl (fun W=>by kernel_rfl) ?_))
  |((with_reducible refine wb 28 ?_);(refine wl_boxK (zs:=[.pointer (some ⟨gp,0,none⟩),.pointer (some ⟨sp,0,none⟩),.slice none 0 0,.int .i64 0,.slice none 0 0]) hK rfl rfl rfl rfl ?_;clear hK;intro w28 b28 hK))
  |((with_reducible refine wt 30 ?_);(refine wl_loadK (v:=.slice c.robots.ad N c.robots.cap) hK rfl rfl rfl (scalT (by decide)) (hv:=by rw [<-hlenV];rfl) (h:=?_)))
  |go_big_skip
  |((with_reducible refine wl ?_);refine ldKQ ?_)
  |(with_reducible refine en ?_))
 replace hK:=(hK.nil 81 elPtr).push1 (r:=rMany []) ⟨Mod.refl _ _,fun _=>False,rMany_p.2 (fun _ h=>h),fun _ h=>h.elim⟩
 go_loopg [9,10,11,32] N (fun k _ _ _ t32 wr=> ∃ (j:Nat) (ps:List Nat) (ra:Option Addr) (n rc:Nat),t32=.int .i64 j/\k=N - j/\j<=N/\Hid (n=ps.length)/\Hid (ps.length=j)/\Know w wr none' [rMany (robsW c.p ps ((c.robots.l.take j).map RM.start)),rOw 81 elPtr (.slice ra n rc) ps,rBlk b28 [.pointer (some ⟨gp,0,none⟩),.pointer (some ⟨sp,0,none⟩),.slice ra n rc,.int .i64 0,.slice none 0 0] 80,rSTK c.p sp (SM.start c.p),rGRID c.p gp,rBlk b1 c.cells 26] [rConf c,stepsR])
 case atStart=>exact ⟨0,[],none,0,0,rfl,rfl,by omega,rfl,rfl,hK⟩
 case round=>
  clear hK
  obtain ⟨j,ps,ra,n,rc,rfl,rfl,hj,hn,hps,hK⟩:=hrel
  have hn2:n<=8:=by have h1:=hn.out;have h2:=hps.out;omega
  by_cases hlt:j<N
  · have dl:decide ((j:Int)<(N:Int))=true:=decide_eq_true (by omega)
    obtain ⟨u,hu⟩: ∃ u,c.robots.l[j]?=some u:=⟨_,List.getElem?_eq_getElem (by rw [HN.out];exact hlt)⟩
    have HT:=Lib.hid (show (c.robots.l.take (j+1)).map RM.start=(c.robots.l.take j).map RM.start++[RM.start u] by rw [List.take_add_one,hu,List.map_append];rfl)
    have HTL:=Lib.hid (show ((c.robots.l.take j).map RM.start).length=j by rw [List.length_map,List.length_take,HN.out];omega)
    have kRj:=Lib.hid (fun (W:World) (h1:Has W (rConf c)) (h2:Has W stepsR)=>kR.out W j u hu h1 h2)
    clear hu
    go_wp2_with (first
     |(go_at_call 34;(refine (kRj.out _ hK.lent hK.lent).mono ?_;rintro e w' ⟨p,rfl,hT⟩;replace hK:=hK.push1 hT;clear hT))
     |((with_reducible refine wt 50 ?_);(refine wl_buildK 81 elPtr [p] hK rfl rfl (fun W=>by kernel_rfl) rfl (by decide) ?_;clear hK;intro adb w50 hK))
     |((with_reducible refine wt 51 ?_)
       (refine wl_appK (xs:=ps) (ys:=[p]) hK ptrTy rfl rfl rfl rfl hK.rd (by have h1:=hps.out;simp;unfold maxLen;omega) (by have h1:=hps.out;simp;omega) (h:=?_);clear hK;intro ad2 N2 cap2 w51 hN2 hK;replace hN2:=Lib.hid hN2;simp only [z0,z1] at hK))
     |((with_reducible refine wl_at (o:=⟨none,.store 78 (.tmp 53) _,_,_,_,_⟩) ?_);(refine wl_storeK (v:=.slice ad2 N2 cap2) hK rfl rfl rfl rfl (sizT (by decide)) rfl (hk:=by simp) (h:=?_);clear hK;intro w' hK;simp only [z0,z1] at hK))
     |go_big_skip
     |((with_reducible refine wl ?_);refine ldKQ ?_)
     |(with_reducible refine en ?_))
    go_roundg (N - (j+1))
    case measure=>omega
    case rel=>
     replace hK:=(hK.sub (.cons _ (List.Sublist.refl _))).putLast
     refine ⟨j+1,ps++[p],ad2,N2,cap2,by go_num,rfl,by omega,hN2,by show _=_;rw [List.length_append,hps.out];rfl,?_⟩
     rw [HT.out,robsW_snoc (by rw [HTL.out];exact hps.out),HTL.out]
     exact hK
  · have hjN:j=N:=by omega
    subst hjN
    have dl:decide ((j:Int)<(j:Int))=false:=decide_eq_false (by omega)
    have HT:=Lib.hid (show (c.robots.l.take j).map RM.start=c.robots.l.map RM.start by rw [List.take_of_length_le (by rw [HN.out];exact Nat.le_refl _)])
    go_wp2_with (first
     |go_big_skip
     |((with_reducible refine wl ?_);refine ldKQ ?_)
     |(with_reducible refine en ?_))
    go_ret2
    have hh:=hn.out
    subst hh
    rw [HT.out] at hK
    replace hK:=hK.nil 43 elSight
    replace hK:=hK.order [3,5,4,1,2,0,6]
    simp only [List.filterMap_cons,List.filterMap_nil,List.getElem?_cons_succ,List.getElem?_cons_zero,List.length_cons,List.length_nil,Nat.reduceAdd,List.drop_succ_cons,List.drop_zero,List.cons_append,List.nil_append] at hK
    refine ⟨b28,rfl,Turns.wld (gp:=gp) (sp:=sp) (ra:=ra) (rc:=rc) (ps:=ps) (sa:=none) (sc:=0) (m:=WM.start c.p) ?_ (hK.sub (.cons_cons _ (.cons_cons _ (.cons_cons _ (.cons_cons _ (.cons_cons _ (.cons_cons _ (.cons _ .slnil)))))))).turns⟩
    rw [hps.out,<-HN.out]
    simp [WM.start]
    rfl
end Go.Proofs.YtngeeilkpnihmaaGreatDoor
