/- Chapter 8's own answer: Drop. -/
import Derived.Test.YtngeeilkpnihmaaGreatDoorR8bZ
set_option linter.all false
namespace Go.Proofs.YtngeeilkpnihmaaGreatDoor
open Go Go.Sk Go.RowKit
set_option maxRecDepth 100000
set_option maxHeartbeats 4000000 in
theorem rf_drop {c:ConfV} {p:Nat} {m:SM} {i:Int} {x:Cell} {w:World} {S:Nat->Prop} (hK:Know w w S [rREF c p m] [rConf c]) (hz:Sized c):Calls Tryz.prog 104 #[.pointer (some ⟨p,0,none⟩),.int .i64 i,.agg x.cells.toArray] w fun e w'=>
 e=.returned (.int .i64 (m.dropE c.p i x))/\Turn (rREF c p (m.drop c.p i x)) w w' S:=by
 obtain ⟨v,rfl,hv,hK⟩:=Know.ref hK
 have kR:=Lib.hid (fun (W:World) (h1:Has W (rBlk v.p (rfCells c v) 102)) (h2:Has W (rConf c))=>rf_room (x:=x) h1 h2 hz)
 have kA:=Lib.hid (fun (W:World) (h1:Has W (rBlk v.p (rfCells c v) 102)) (h2:Has W (rOw 85 elStack v.cells.val v.cells.l))=>rf_place (x:=x) h1 h2 hv)
 have HV:=Lib.hid hv
 have hld:v.loads.l.length=m.ld.length:=by rw [hv.loads]
 have refuse: ∀ (w':World) (M:List Res),m.dropE c.p i x≠0->Know w w' S (M++rRf c v) [rConf c]->Turn (rREF c v.p (m.drop c.p i x)) w w' S:=fun w' M he hK=>by
  rw [drop_not he]
  exact Turns.ref ((hK.sub (List.sublist_append_right _ _)).turns) HV.out
 have HR:=Lib.hid refuse
 clear refuse
 by_cases hi0:i<0
 · have hE:m.dropE c.p i x=1:=by unfold SM.dropE dropE;rw [if_neg (by omega)]
   have HE:=Lib.hid hE
   clear hE hv hld
   simp only [rRf] at hK
   go_enter Tryz.func104,Tryz.ntmps104
   go_wp2_with (first
    |((with_reducible refine wb 5 ?_)
      (refine wl_boxK hK rfl rfl rfl rfl ?_;clear hK;intro w5 b5 hK))
    |(go_at_call 129;(refine (hK.quiet (kA.out _ hK.own hK.own)).mono ?_;clear hK;rintro e w' ⟨rfl,hK⟩))
    |go_big_skip
    |go_big_skip
    |((with_reducible refine wl ?_);refine ldQ ?_)
    |(with_reducible refine en ?_))
   go_ret
   exact ⟨by rw [HE.out];rfl,HR.out _ [_] (by rw [HE.out];decide) hK⟩
 · obtain ⟨k,rfl⟩: ∃ k:Nat,i=(k:Int):=⟨i.toNat,by omega⟩
   by_cases hk:k<v.loads.l.length
   · have e1:decide (v.loads.l.length<=k)=false:=decide_eq_false (by omega)
     have e2:decide ((v.loads.l.length:Int)<=(k:Int))=false:=decide_eq_false (by omega)
     rcases place_ways hv.ok.may (m:=m) x with ⟨ho,hpl⟩|⟨ho,q,hpl,hq⟩
     · have hE:m.dropE c.p k x=1:=by unfold SM.dropE dropE;rw [if_neg (by rw [ho];simp)]
       have HE:=Lib.hid hE
       rw [hpl] at kA
       clear hE hv hld ho hpl
       simp only [rRf] at hK
       go_enter Tryz.func104,Tryz.ntmps104
       go_wp2_with (first
        |((with_reducible refine wb 5 ?_)
          (refine wl_boxK hK rfl rfl rfl rfl ?_;clear hK;intro w5 b5 hK))
        |(go_at_call 129;(refine (hK.quiet (kA.out _ hK.own hK.own)).mono ?_;clear hK;rintro e w' ⟨rfl,hK⟩))
        |go_big_skip
        |go_big_skip
        |((with_reducible refine wl ?_);refine ldQ ?_)
        |(with_reducible refine en ?_))
       go_ret
       exact ⟨by rw [HE.out];rfl,HR.out _ [_] (by rw [HE.out];decide) hK⟩
     · rw [hpl] at kA
       obtain ⟨s,hs1,hs2,hs3⟩:=hv.at hq
       have hql:q<v.cells.l.length:=(List.getElem?_eq_some_iff.1 hs1).1
       have hql2:q<=256:=by have:=hv.len;omega
       obtain ⟨ld,hld1⟩: ∃ ld,v.loads.l[k]?=some ld:=⟨_,List.getElem?_eq_getElem hk⟩
       have hgd:m.ld.getD (k:Int).toNat 0=ld:=by rw [<-hv.loads,Int.toNat_natCast,List.getD_eq_getElem?_getD,hld1];rfl
       have HU:=Lib.hid hld1
       have HS1:=Lib.hid hs1
       have hcond:openB c.p x=true/\(0:Int)<=(k:Int)/\(k:Int)<m.ld.length:=⟨ho,by omega,by omega⟩
       by_cases hl0:ld=0
       · have hE:m.dropE c.p k x=8:=by unfold SM.dropE dropE;rw [if_pos hcond,hgd,if_pos hl0]
         have HE:=Lib.hid hE
         subst hl0
         clear hE hv hld ho hpl hcond hgd hld1 hs1 hs2 hs3 hq
         simp only [rRf] at hK
         go_enter Tryz.func104,Tryz.ntmps104
         go_wp2_with (first
          |((with_reducible refine wb 5 ?_)
            (refine wl_boxK hK rfl rfl rfl rfl ?_;clear hK;intro w5 b5 hK))
          |(go_at_call 129;(refine (hK.quiet (kA.out _ hK.own hK.own)).mono ?_;clear hK;rintro e w' ⟨rfl,hK⟩))
          |((with_reducible refine wt 32 ?_)
            (refine wl_ixK hK rfl rfl rfl rfl intTy.und intTy.size (h:=?_);intro b32 k32 hat32))
          |go_big_skip
          |go_big_skip
          |((with_reducible refine wl ?_);refine ldQ ?_)
          |(with_reducible refine en ?_))
         go_ret
         exact ⟨by rw [HE.out];rfl,HR.out _ [_] (by rw [HE.out];decide) hK⟩
       · have e3:(ld == 0)=false:=beq_eq_false_iff_ne.2 hl0
         have e3':decide (ld=0)=false:=decide_eq_false hl0
         have hn1024:s.bins.l.length<=1024:=by have:=hv.ok.short x;rw [<-hs3] at this;omega
         obtain ⟨room,hroom⟩: ∃ r,r=roomP c.p x:=⟨_,rfl⟩
         rw [<-hroom] at kR
         by_cases hfull:roomP c.p x<=(m.f x).length
         · have hE:m.dropE c.p k x=2:=by unfold SM.dropE dropE;rw [if_pos hcond,hgd,if_neg hl0,if_pos hfull]
           have HE:=Lib.hid hE
           have e4:decide (room<=(s.bins.l.length:Int))=true:=decide_eq_true (by rw [hroom,hs3];exact hfull)
           clear hE hv hld ho hpl hcond hgd hld1 hs1 hs2 hs3 hq hl0 hroom hfull
           simp only [rRf] at hK
           go_enter Tryz.func104,Tryz.ntmps104
           go_wp2_with (first
            |((with_reducible refine wb 5 ?_)
              (refine wl_boxK hK rfl rfl rfl rfl ?_;clear hK;intro w5 b5 hK))
            |(go_at_call 129;(refine (hK.quiet (kA.out _ hK.own hK.own)).mono ?_;clear hK;rintro e w' ⟨rfl,hK⟩))
            |(go_at_call 130;(refine (hK.quiet (kR.out _ hK.own hK.lent)).mono ?_;clear hK;rintro e w' ⟨rfl,hK⟩))
            |((with_reducible refine wt 32 ?_)
              (refine wl_ixK hK rfl rfl rfl rfl intTy.und intTy.size (h:=?_);intro b32 k32 hat32))
            |((with_reducible refine wt 40 ?_)
              (refine wl_ixK hK rfl rfl rfl rfl stackTy.und stackTy.size (h:=?_);intro b40 k40 hat40))
            |go_big_skip
            |go_big_skip
            |((with_reducible refine wl ?_);refine ldQ ?_)
            |(with_reducible refine en ?_))
           go_ret
           exact ⟨by rw [HE.out];rfl,HR.out _ [_] (by rw [HE.out];decide) hK⟩
         · have hE:m.dropE c.p k x=0:=by unfold SM.dropE dropE;rw [if_pos hcond,hgd,if_neg hl0,if_neg hfull]
           have hM:=drop_at hE
           rw [hgd] at hM
           have e4:decide (room<=(s.bins.l.length:Int))=false:=decide_eq_false (by rw [hroom,hs3];exact hfull)
           have hcap:s.bins.l.length<=s.bins.cap:=by
            have h1:Has w (rMany (v.cells.l.map rdRes)):=hK.get (by simp [rRf])
            have h2:=rMany_has h1 (rdRes s) (List.mem_map_of_mem (List.mem_of_getElem? hs1))
            obtain ⟨_,ad',c',h3,h4,_⟩:=h2.rd
            injection h3 with _ h5 h6
            omega
           have HOK2:=Lib.hid (fun (ad:Option Addr) (cap:Nat)=>hv.put (q:=q) (k:=k) (s:=s) (u:=⟨s.at_,⟨ad,s.bins.l++[ld],cap⟩⟩) (b:=0) (m':=m.drop c.p k x) hs1 rfl (by rw [hM,hs3,hs2,Int.toNat_natCast]) (drop_ok hv.ok))
           have HE:=Lib.hid hE
           have hpick:(v.cells.l.map rdRes)[q]?=some (rdRes s):=by rw [List.getElem?_map,hs1];rfl
           have hqm:q<(v.cells.l.map rdRes).length:=by rw [List.length_map];exact hql
           simp only [rRf] at hK
           replace hK:=Know.pickAt hK hpick
           have HSET:Hid (∀ (u:StackV),(v.cells.l.map rdRes).set q (rdRes u)=(v.cells.l.set q u).map rdRes):=fun u=>by rw [List.map_set]
           have HQM:=Lib.hid hqm
           obtain ⟨rest,hrest⟩: ∃ r,r=(v.cells.l.map rdRes).take q++(v.cells.l.map rdRes).drop (q+1):=⟨_,rfl⟩
           rw [<-hrest] at hK
           have HRest:=Lib.hid hrest
           clear hE hv hld ho hpl hcond hgd hld1 hs1 hs2 hs3 hq hM hpick hqm hrest hl0 hroom hfull
           go_enter Tryz.func104,Tryz.ntmps104
           go_wp2_with (first
            |((with_reducible refine wb 5 ?_)
              (refine wl_boxK hK rfl rfl rfl rfl ?_;clear hK;intro w5 b5 hK))
            |(go_at_call 129;(refine (hK.quiet (kA.out _ hK.own hK.own)).mono ?_;clear hK;rintro e w' ⟨rfl,hK⟩))
            |(go_at_call 130;(refine (hK.quiet (kR.out _ hK.own hK.lent)).mono ?_;clear hK;rintro e w' ⟨rfl,hK⟩))
            |((with_reducible refine wt 32 ?_);(refine wl_ixK (xs:=v.loads.l) hK rfl rfl rfl rfl intTy.und intTy.size (hu:=HU) (h:=?_);intro b32 k32 hat32))
            |((with_reducible refine wt 65 ?_);(refine wl_ixK (xs:=v.loads.l) hK rfl rfl rfl rfl intTy.und intTy.size (hu:=HU) (h:=?_);intro b65 k65 hat65))
            |((with_reducible refine wt 59 ?_);(refine wl_slice3 (h:=s.bins.l.length) (m:=s.bins.l.length) rfl rfl rfl rfl rfl intTy.und intTy.size (Nat.le_refl _) hcap ?_))
            |((with_reducible refine wt 67 ?_);(refine wl_buildK 3 elInt [ld] hK rfl rfl (fun W=>by kernel_rfl) rfl (by decide) ?_;clear hK;intro adb w67 hK))
            |((with_reducible refine wt 68 ?_)
              (refine wl_appG (xs:=s.bins.l) (ys:=[ld]) hK intTy rfl rfl rfl rfl (Rd.snug (hK.rd (v:=s.bins.val) (l:=s.bins.l))) hK.rd (by simp) (by simp;unfold maxLen;omega) (by simp;omega) ?_;clear hK;intro ad2 N2 cap2 w68 hN2 hK;have HN2:=Lib.hid hN2;clear hN2))
            |((with_reducible refine wt 69 ?_);(refine wl_ixO (xs:=v.cells.l) hK rfl rfl rfl rfl stackTy.und stackTy.size (hu:=HS1) (h:=?_);intro b69 k69 hat69 hsp69))
            |((with_reducible refine wl_at (o:=⟨none,.store 53 _ _,_,_,_,_⟩) ?_);(refine wl_storeF (⟨s.at_,⟨ad2,s.bins.l++[ld],cap2⟩⟩:StackV) hK rfl rfl rfl rfl (sizT (by decide)) rfl hsp69 (by decide) HS1 (show elStack.cells (⟨s.at_,⟨ad2,s.bins.l++[ld],cap2⟩⟩:StackV)=(elStack.cells s).set 2 (.slice ad2 N2 cap2) by rw [HN2.out];rfl) (h:=?_);clear hK;intro w' hK;simp only [z0,z1] at hK))
            |((with_reducible refine wt 76 ?_);(refine wl_ixO (xs:=v.loads.l) hK rfl rfl rfl rfl intTy.und intTy.size (hu:=HU) (h:=?_);intro b76 k76 hat76 hsp76))
            |((with_reducible refine wl_at (o:=⟨none,.store 3 _ _,_,_,_,_⟩) ?_);(refine wl_storeE (0:Int) hK rfl rfl rfl rfl (sizT (by decide)) hsp76 (hlt:=hk) (hv:=.inr ⟨rfl,rfl⟩) (h:=?_);clear hK;intro w' hK;simp only [z0,z1] at hK))
            |((with_reducible refine wt 40 ?_)
              (refine wl_ixK hK rfl rfl rfl rfl stackTy.und stackTy.size (h:=?_);intro b40 k40 hat40))
            |((with_reducible refine wp_region_stableK (id:=9) hK [3] [rBlk v.p (rfCells c v) 102] (by kernel_rfl) (by kernel_rfl) (by simp) (by kernel_rfl) ?_);clear hK;intro w' hK)
            |(with_reducible refine wpC_of ?_)
            |(with_reducible refine atEndC (hK.cls (by simp)) ?_)
            |((with_reducible refine wpC_end' ?_);refine wpC_nil ⟨by kernel_rfl,stays_loadK rfl rfl rfl rfl (scalT (by decide)) rfl (rest:=stays_nil),?_⟩)
            |go_big_skip
            |go_big_skip
            |((with_reducible refine wl ?_);refine ldQ ?_)
            |(with_reducible refine en ?_))
           go_ret
           refine ⟨by rw [HE.out];rfl,?_⟩
           replace hK:=hK.sub (.cons_cons _ (.cons _ (.cons _ (.cons _ (List.Sublist.refl _)))))
           replace hK:=hK.seen (r':=rdRes ⟨s.at_,⟨ad2,s.bins.l++[ld],cap2⟩⟩) (fun w S hr=>by rw [HN2.out] at hr;exact rOw_rd hr) .head
           simp only [List.set_cons_zero] at hK
           rw [HRest.out] at hK
           replace hK:=Know.putAt hK HQM.out
           rw [HSET.out] at hK
           refine Turns.ref (v:=⟨v.p,⟨v.cells.ad,v.cells.l.set q ⟨s.at_,⟨ad2,s.bins.l++[ld],cap2⟩⟩,v.cells.cap⟩,⟨v.loads.ad,v.loads.l.set k 0,v.loads.cap⟩⟩) ?_ (HOK2.out ad2 cap2)
           unfold rRf rfCells
           simp only [sv_set]
           exact hK.turns
   · have hE:m.dropE c.p k x=1:=by unfold SM.dropE dropE;rw [if_neg (by omega)]
     have HE:=Lib.hid hE
     have e1:decide (v.loads.l.length<=k)=true:=decide_eq_true (by omega)
     have e2:decide ((v.loads.l.length:Int)<=(k:Int))=true:=decide_eq_true (by omega)
     clear hE hv hld
     simp only [rRf] at hK
     go_enter Tryz.func104,Tryz.ntmps104
     go_wp2_with (first
      |((with_reducible refine wb 5 ?_)
        (refine wl_boxK hK rfl rfl rfl rfl ?_;clear hK;intro w5 b5 hK))
      |(go_at_call 129;(refine (hK.quiet (kA.out _ hK.own hK.own)).mono ?_;clear hK;rintro e w' ⟨rfl,hK⟩))
      |go_big_skip
      |go_big_skip
      |((with_reducible refine wl ?_);refine ldQ ?_)
      |(with_reducible refine en ?_))
     go_ret
     exact ⟨by rw [HE.out];rfl,HR.out _ [_] (by rw [HE.out];decide) hK⟩
end Go.Proofs.YtngeeilkpnihmaaGreatDoor
