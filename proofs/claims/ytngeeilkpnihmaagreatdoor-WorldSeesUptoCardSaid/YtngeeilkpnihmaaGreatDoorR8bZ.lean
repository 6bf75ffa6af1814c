/- Chapter 8's own answer: Lift. -/
import Derived.Test.YtngeeilkpnihmaaGreatDoorR8aZ
set_option linter.all false
namespace Go.Proofs.YtngeeilkpnihmaaGreatDoor
open Go Go.Sk Go.RowKit
set_option maxRecDepth 100000
theorem RfOk.at {c:ConfV} {v:RfV} {m:SM} (h:RfOk c v m) {x:Cell} {q:Nat} (hq:(m.told c.p)[q]?=some ⟨x,m.f x⟩): ∃ s:StackV,v.cells.l[q]?=some s/\s.at_=x/\s.bins.l=m.f x:=by
 rw [<-h.cells,List.getElem?_map] at hq
 obtain ⟨s,h1,h2⟩:=Option.map_eq_some_iff.1 hq
 exact ⟨s,h1,congrArg StackP.at_ h2,congrArg StackP.bins h2⟩
theorem RfOk.put {c:ConfV} {v:RfV} {m m':SM} (h:RfOk c v m) {q k:Nat} {s u:StackV} {b:Int} (hs:v.cells.l[q]?=some s) (hu:u.at_=s.at_) (hm:m'=⟨putF m.f s.at_ u.bins.l,m.ld.set k b⟩) (ok:SMOk c.p m'):
 RfOk c ⟨v.p,⟨v.cells.ad,v.cells.l.set q u,v.cells.cap⟩,⟨v.loads.ad,v.loads.l.set k b,v.loads.cap⟩⟩ m':=by
 subst hm
 refine ⟨?_,?_,ok⟩
 · show (v.cells.l.set q u).map StackV.p=_
   have hq:(m.told c.p)[q]?=some s.p:=by rw [<-h.cells,List.getElem?_map,hs];rfl
   rw [List.map_set,h.cells]
   have:=told_set h.ok.may hq u.bins.l (m.ld.set k b)
   have e:u.p=⟨s.p.at_,u.bins.l⟩:=by show StackP.mk _ _=StackP.mk _ _;rw [hu];rfl
   rw [e]
   exact this
 · show v.loads.l.set k b=_
   rw [h.loads]
theorem sv_set {α:Type} {s:Sv α} {i:Nat} {x:α}:(⟨s.ad,s.l.set i x,s.cap⟩:Sv α).val=s.val:=by
 show Value.slice _ _ _=_
 simp only [List.length_set]
set_option maxHeartbeats 4000000 in
theorem rf_lift {c:ConfV} {p:Nat} {m:SM} {i:Int} {x:Cell} {w:World} {S:Nat->Prop} (h:(rREF c p m).p w S):Calls Tryz.prog 102 #[.pointer (some ⟨p,0,none⟩),.int .i64 i,.agg x.cells.toArray] w fun e w'=>
 e=.returned (.tuple #[.int .i64 (m.liftV c.p i x),.int .i64 (m.liftE c.p i x)])/\Turn (rREF c p (m.lift c.p i x)) w w' S:=by
 obtain ⟨v,rfl,hv,hS⟩:=rREF_p.1 h
 have hK:Know w w S (rRf c v) []:=Know.startS hS (by simp)
 clear h
 have kA:=Lib.hid (fun (W:World) (h1:Has W (rBlk v.p (rfCells c v) 102)) (h2:Has W (rOw 85 elStack v.cells.val v.cells.l))=>rf_place (x:=x) h1 h2 hv)
 have HV:=Lib.hid hv
 have hld:v.loads.l.length=m.ld.length:=by rw [hv.loads]
 have refuse: ∀ (w':World) (M:List Res),m.liftE c.p i x≠0->Know w w' S (M++rRf c v) []->Turn (rREF c v.p (m.lift c.p i x)) w w' S:=fun w' M he hK=>by
  rw [(lift_not he).1]
  exact Turns.ref ((hK.sub (List.sublist_append_right _ _)).turns) HV.out
 have HR:=Lib.hid refuse
 clear refuse
 by_cases hi0:i<0
 · have hE:m.liftE c.p i x=1:=by unfold SM.liftE liftE;rw [if_neg (by omega)]
   have HE:=Lib.hid hE
   have HN:=Lib.hid (lift_not (c:=c.p) (m:=m) (i:=i) (x:=x) (by omega)).2
   clear hE hv hS hld
   simp only [rRf] at hK
   go_enter Tryz.func102,Tryz.ntmps102
   go_wp2_with (first
    |((with_reducible refine wb 5 ?_)
      (refine wl_boxK hK rfl rfl rfl rfl ?_;clear hK;intro w5 b5 hK))
    |(go_at_call 129;(refine (hK.quiet (kA.out _ hK.own hK.own)).mono ?_;clear hK;rintro e w' ⟨rfl,hK⟩))
    |go_big_skip
    |go_big_skip
    |((with_reducible refine wl ?_);refine ldQ ?_)
    |(with_reducible refine en ?_))
   go_ret2
   exact ⟨by rw [HE.out,HN.out];rfl,HR.out _ [_] (by rw [HE.out];decide) hK⟩
 · obtain ⟨k,rfl⟩: ∃ k:Nat,i=(k:Int):=⟨i.toNat,by omega⟩
   by_cases hk:k<v.loads.l.length
   · have e1:decide (v.loads.l.length<=k)=false:=decide_eq_false (by omega)
     have e2:decide ((v.loads.l.length:Int)<=(k:Int))=false:=decide_eq_false (by omega)
     rcases place_ways hv.ok.may (m:=m) x with ⟨ho,hpl⟩|⟨ho,q,hpl,hq⟩
     · have hE:m.liftE c.p k x=1:=by unfold SM.liftE liftE;rw [if_neg (by rw [ho];simp)]
       have HE:=Lib.hid hE
       have HN:=Lib.hid (lift_not (c:=c.p) (m:=m) (i:=k) (x:=x) (by omega)).2
       rw [hpl] at kA
       clear hE hv hS hld ho hpl
       simp only [rRf] at hK
       go_enter Tryz.func102,Tryz.ntmps102
       go_wp2_with (first
        |((with_reducible refine wb 5 ?_)
          (refine wl_boxK hK rfl rfl rfl rfl ?_;clear hK;intro w5 b5 hK))
        |(go_at_call 129;(refine (hK.quiet (kA.out _ hK.own hK.own)).mono ?_;clear hK;rintro e w' ⟨rfl,hK⟩))
        |go_big_skip
        |go_big_skip
        |((with_reducible refine wl ?_);refine ldQ ?_)
        |(with_reducible refine en ?_))
       go_ret2
       exact ⟨by rw [HE.out,HN.out];rfl,HR.out _ [_] (by rw [HE.out];decide) hK⟩
     · rw [hpl] at kA
       obtain ⟨s,hs1,hs2,hs3⟩:=hv.at hq
       have hql:q<v.cells.l.length:=(List.getElem?_eq_some_iff.1 hs1).1
       have hql2:q<=256:=by have:=hv.len;omega
       obtain ⟨ld,hld1⟩: ∃ ld,v.loads.l[k]?=some ld:=⟨_,List.getElem?_eq_getElem hk⟩
       have hgd:m.ld.getD (k:Int).toNat 0=ld:=by rw [<-hv.loads,Int.toNat_natCast,List.getD_eq_getElem?_getD,hld1];rfl
       have HU:=Lib.hid hld1
       have HS1:=Lib.hid hs1
       have hcond:openB c.p x=true/\(0:Int)<=(k:Int)/\(k:Int)<m.ld.length:=⟨ho,by omega,by omega⟩
       by_cases hl0:ld=0
       · by_cases hf0:m.f x=[]
         · have hE:m.liftE c.p k x=3:=by unfold SM.liftE liftE;rw [if_pos hcond,hgd,if_neg (by simp [hl0]),if_pos hf0]
           have HE:=Lib.hid hE
           have HN:=Lib.hid (lift_not (c:=c.p) (m:=m) (i:=k) (x:=x) (by omega)).2
           rw [hf0] at hs3
           obtain ⟨sx,⟨sa,sl,sc⟩⟩:=s
           simp only at hs3 hs2
           subst hs3 hl0
           clear hE hv hS hld ho hpl hcond hgd hld1 hs1 hs2 hf0 hq
           simp only [rRf] at hK
           go_enter Tryz.func102,Tryz.ntmps102
           go_wp2_with (first
            |((with_reducible refine wb 5 ?_)
              (refine wl_boxK hK rfl rfl rfl rfl ?_;clear hK;intro w5 b5 hK))
            |(go_at_call 129;(refine (hK.quiet (kA.out _ hK.own hK.own)).mono ?_;clear hK;rintro e w' ⟨rfl,hK⟩))
            |((with_reducible refine wt 33 ?_)
              (refine wl_ixK hK rfl rfl rfl rfl intTy.und intTy.size (h:=?_);intro b33 k33 hat33))
            |((with_reducible refine wt 41 ?_)
              (refine wl_ixK hK rfl rfl rfl rfl stackTy.und stackTy.size (h:=?_);intro b41 k41 hat41))
            |go_big_skip
            |go_big_skip
            |((with_reducible refine wl ?_);refine ldQ ?_)
            |(with_reducible refine en ?_))
           go_ret2
           exact ⟨by rw [HE.out,HN.out];rfl,HR.out _ [_] (by rw [HE.out];decide) hK⟩
         · have hE:m.liftE c.p k x=0:=by unfold SM.liftE liftE;rw [if_pos hcond,hgd,if_neg (by simp [hl0]),if_neg hf0]
           have hM:=lift_at hE
           have hVV:m.liftV c.p k x=(m.f x).getLastD 0:=by unfold SM.liftV;rw [if_pos hE]
           obtain ⟨b,hb⟩: ∃ b,b=(m.f x).getLastD 0:=⟨_,rfl⟩
           rw [<-hb] at hM hVV
           obtain ⟨n,hn⟩: ∃ n,s.bins.l.length=n+1:=⟨s.bins.l.length - 1,by have:=List.length_pos_iff.2 hf0;rw [<-hs3] at this;omega⟩
           have hbn:s.bins.l[n]?=some b:=by
            rw [hb,<-hs3,List.getLastD_eq_getLast?,List.getLast?_eq_getElem?,hn,Nat.add_sub_cancel,List.getElem?_eq_getElem (by omega)]
            rfl
           have hcap:s.bins.l.length<=s.bins.cap:=by
            have h1:Has w (rMany (v.cells.l.map rdRes)):=hK.get (by simp [rRf])
            have h2:=rMany_has h1 (rdRes s) (List.mem_map_of_mem (List.mem_of_getElem? hs1))
            obtain ⟨_,ad',c',h3,h4,_⟩:=h2.rd
            injection h3 with _ h5 h6
            omega
           have i1:((s.bins.l.length:Nat):Int) - 1=(n:Int):=by omega
           have e3:(((s.bins.l.length:Nat):Int) == 0)=false:=beq_eq_false_iff_ne.2 (by omega)
           have e3':(s.bins.l.length == 0)=false:=beq_eq_false_iff_ne.2 (by omega)
           have e3'':decide (s.bins.l=[])=false:=decide_eq_false (by rw [hs3];exact hf0)
           have hn1024:n<=1024:=by have:=hv.ok.short x;rw [<-hs3] at this;omega
           have hnc:n<=s.bins.cap:=by omega
           have HB:=Lib.hid hbn
           have HUset:=Lib.hid (show (v.loads.l.set k b)[k]?=some b by rw [List.getElem?_set,if_pos rfl,if_pos hk])
           have hkl:Hid (n=(s.bins.l.take n).length):=by show _=_;rw [List.length_take];omega
           have HC2:Hid (elStack.cells (⟨s.at_,⟨s.bins.ad,s.bins.l.take n,n⟩⟩:StackV)=(elStack.cells s).set 2 (.slice s.bins.ad n n)):=by
            show [Value.int _ _,Value.int _ _,Value.slice _ (s.bins.l.take n).length n]=[Value.int _ _,Value.int _ _,_]
            rw [<-hkl.out]
           have hdl:(m.f x).dropLast=s.bins.l.take n:=by rw [<-hs3,List.dropLast_eq_take,hn,Nat.add_sub_cancel]
           have HOK2:=Lib.hid (hv.put (q:=q) (k:=k) (s:=s) (u:=⟨s.at_,⟨s.bins.ad,s.bins.l.take n,n⟩⟩) (b:=b) (m':=m.lift c.p k x) hs1 rfl (by rw [hM,hdl,hs2,Int.toNat_natCast]) (lift_ok hv.ok))
           have HE:=Lib.hid hE
           have HVV:=Lib.hid hVV
           have hpick:(v.cells.l.map rdRes)[q]?=some (rdRes s):=by rw [List.getElem?_map,hs1];rfl
           have hqm:q<(v.cells.l.map rdRes).length:=by rw [List.length_map];exact hql
           simp only [rRf] at hK
           replace hK:=Know.pickAt hK hpick
           have HSET:Hid ((v.cells.l.map rdRes).set q (rdRes ⟨s.at_,⟨s.bins.ad,s.bins.l.take n,n⟩⟩)=(v.cells.l.set q ⟨s.at_,⟨s.bins.ad,s.bins.l.take n,n⟩⟩).map rdRes):=by show _=_;rw [List.map_set]
           have HQM:=Lib.hid hqm
           obtain ⟨rest,hrest⟩: ∃ r,r=(v.cells.l.map rdRes).take q++(v.cells.l.map rdRes).drop (q+1):=⟨_,rfl⟩
           rw [<-hrest] at hK
           have HRest:=Lib.hid hrest
           have hl00:(ld !=0)=false:=by rw [hl0];rfl
           subst hl0
           clear hE hv hS hld ho hpl hcond hgd hld1 hs1 hs2 hs3 hf0 hq hM hVV hb hn hbn hcap hpick hqm hrest hdl
           go_enter Tryz.func102,Tryz.ntmps102
           go_wp2_with (first
            |((with_reducible refine wb 5 ?_)
              (refine wl_boxK hK rfl rfl rfl rfl ?_;clear hK;intro w5 b5 hK))
            |(go_at_call 129;(refine (hK.quiet (kA.out _ hK.own hK.own)).mono ?_;clear hK;rintro e w' ⟨rfl,hK⟩))
            |((with_reducible refine wt 33 ?_);(refine wl_ixK (xs:=v.loads.l) hK rfl rfl rfl rfl intTy.und intTy.size (hu:=HU) (h:=?_);intro b33 k33 hat33))
            |((with_reducible refine wt 56 ?_);(refine wl_ixK (xs:=s.bins.l) hK rfl rfl rfl rfl intTy.und intTy.size (hu:=HB) (h:=?_);intro b56 k56 hat56))
            |((with_reducible refine wt 58 ?_);(refine wl_ixO (xs:=v.loads.l) hK rfl rfl rfl rfl intTy.und intTy.size (hu:=HU) (h:=?_);intro b58 k58 hat58 hsp58))
            |((with_reducible refine wl_at (o:=⟨none,.store 3 _ _,_,_,_,_⟩) ?_);(refine wl_storeE b hK rfl rfl rfl rfl (sizT (by decide)) hsp58 (hlt:=hk) (hv:=.inr ⟨rfl,rfl⟩) (h:=?_);clear hK;intro w' hK;simp only [z0,z1] at hK))
            |((with_reducible refine wt 71 ?_);(refine wl_slice3 (h:=n) (m:=n) rfl rfl rfl rfl rfl intTy.und intTy.size (Nat.le_refl _) hnc ?_))
            |((with_reducible refine wt 72 ?_);(refine wl_ixO (xs:=v.cells.l) hK rfl rfl rfl rfl stackTy.und stackTy.size (hu:=HS1) (h:=?_);intro b72 k72 hat72 hsp72))
            |((with_reducible refine wl_at (o:=⟨none,.store 53 _ _,_,_,_,_⟩) ?_);(refine wl_storeF (⟨s.at_,⟨s.bins.ad,s.bins.l.take n,n⟩⟩:StackV) hK rfl rfl rfl rfl (sizT (by decide)) rfl hsp72 (by decide) HS1 HC2.out (h:=?_);clear hK;intro w' hK;simp only [z0,z1] at hK))
            |((with_reducible refine wt 79 ?_);(refine wl_ixK (xs:=v.loads.l.set k b) hK rfl rfl rfl rfl intTy.und intTy.size (hu:=HUset) (h:=?_);intro b79 k79 hat79))
            |((with_reducible refine wt 41 ?_)
              (refine wl_ixK hK rfl rfl rfl rfl stackTy.und stackTy.size (h:=?_);intro b41 k41 hat41))
            |((with_reducible refine tx 9 hK ?_);clear hK;intro w' hK)
            |((with_reducible refine tx 10 hK ?_);clear hK;intro w' hK)
            |go_big_skip
            |go_big_skip
            |((with_reducible refine wl ?_);refine ldQ ?_)
            |(with_reducible refine en ?_))
           go_ret2
           refine ⟨by rw [HE.out,HVV.out];rfl,?_⟩
           replace hK:=hK.sub (.cons _ (List.Sublist.refl _))
           replace hK:=hK.seen (r:=rdRes s) (r':=rdRes ⟨s.at_,⟨s.bins.ad,s.bins.l.take n,n⟩⟩) (fun w S hr=>by
            have h1:=rRd_head (k:=n) (m:=n) hr (by have:=hkl.out;rw [List.length_take] at this;omega) (Nat.le_refl _)
            show (rRd elInt (.slice s.bins.ad (s.bins.l.take n).length n) (s.bins.l.take n)).p w S
            rw [<-hkl.out]
            exact h1)
           simp only [List.set_cons_zero] at hK
           rw [HRest.out] at hK
           replace hK:=Know.putAt hK HQM.out
           rw [HSET.out] at hK
           refine Turns.ref (v:=⟨v.p,⟨v.cells.ad,v.cells.l.set q ⟨s.at_,⟨s.bins.ad,s.bins.l.take n,n⟩⟩,v.cells.cap⟩,⟨v.loads.ad,v.loads.l.set k b,v.loads.cap⟩⟩) ?_ HOK2.out
           unfold rRf rfCells
           simp only [sv_set]
           exact hK.turns
       · have hE:m.liftE c.p k x=8:=by unfold SM.liftE liftE;rw [if_pos hcond,hgd,if_pos hl0]
         have HE:=Lib.hid hE
         have HN:=Lib.hid (lift_not (c:=c.p) (m:=m) (i:=k) (x:=x) (by omega)).2
         have e3:(ld !=0)=true:=bne_iff_ne.2 hl0
         have e3':decide (ld=0)=false:=decide_eq_false hl0
         clear hE hv hS hld ho hpl hcond hgd hld1 hs1 hs2 hs3 hq hl0
         simp only [rRf] at hK
         go_enter Tryz.func102,Tryz.ntmps102
         go_wp2_with (first
          |((with_reducible refine wb 5 ?_)
            (refine wl_boxK hK rfl rfl rfl rfl ?_;clear hK;intro w5 b5 hK))
          |(go_at_call 129;(refine (hK.quiet (kA.out _ hK.own hK.own)).mono ?_;clear hK;rintro e w' ⟨rfl,hK⟩))
          |((with_reducible refine wt 33 ?_)
            (refine wl_ixK hK rfl rfl rfl rfl intTy.und intTy.size (h:=?_);intro b33 k33 hat33))
          |go_big_skip
          |go_big_skip
          |((with_reducible refine wl ?_);refine ldQ ?_)
          |(with_reducible refine en ?_))
         go_ret2
         exact ⟨by rw [HE.out,HN.out];rfl,HR.out _ [_] (by rw [HE.out];decide) hK⟩
   · have hE:m.liftE c.p k x=1:=by unfold SM.liftE liftE;rw [if_neg (by omega)]
     have HE:=Lib.hid hE
     have HN:=Lib.hid (lift_not (c:=c.p) (m:=m) (i:=k) (x:=x) (by omega)).2
     have e1:decide (v.loads.l.length<=k)=true:=decide_eq_true (by omega)
     have e2:decide ((v.loads.l.length:Int)<=(k:Int))=true:=decide_eq_true (by omega)
     clear hE hv hS hld
     simp only [rRf] at hK
     go_enter Tryz.func102,Tryz.ntmps102
     go_wp2_with (first
      |((with_reducible refine wb 5 ?_)
        (refine wl_boxK hK rfl rfl rfl rfl ?_;clear hK;intro w5 b5 hK))
      |(go_at_call 129;(refine (hK.quiet (kA.out _ hK.own hK.own)).mono ?_;clear hK;rintro e w' ⟨rfl,hK⟩))
      |go_big_skip
      |go_big_skip
      |((with_reducible refine wl ?_);refine ldQ ?_)
      |(with_reducible refine en ?_))
     go_ret2
     exact ⟨by rw [HE.out,HN.out];rfl,HR.out _ [_] (by rw [HE.out];decide) hK⟩
end Go.Proofs.YtngeeilkpnihmaaGreatDoor
