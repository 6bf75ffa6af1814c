/- Chapter 8's own answer: New. -/
import Derived.Test.YtngeeilkpnihmaaGreatDoorR8cZ
set_option linter.all false
namespace Go.Proofs.YtngeeilkpnihmaaGreatDoor
open Go Go.Sk Go.RowKit
set_option maxRecDepth 100000
theorem binsIn_none {l:List StackP} {x:Cell} (h:x ∉ l.map (·.at_)):binsIn l x=[]:=by
 unfold binsIn
 have:l.find? (fun s=>decide (s.at_=x))=none:=by
  rw [List.find?_eq_none]
  intro s hs hc
  exact h (List.mem_map.2 ⟨s,hs,by simpa using hc⟩)
 rw [this]
 rfl
set_option maxHeartbeats 8000000 in
theorem rf_new {c:ConfV} {w:World} (hc:Has w (rConf c)) (hu:Upto c) (hm:MayP c.p):Calls Tryz.prog 22 #[.agg c.cells.toArray] w fun e w'=>
 ∃ p,e=.returned (.tuple #[.pointer (some ⟨p,0,none⟩),.bool true])/\Turn (rREF c p (SM.start c.p)) w w' none':=by
 have hK:Know w w none' [] [rRd elStack c.stacks.val c.stacks.l,rStacks c.stacks,rConf c]:=((Know.start (L:=[rConf c]) w (by simpa using hc)).conf (c:=c) (by simp)).subL (by simp)
 have HM:=Lib.hid (mayB_true.2 hm)
 have HY:=Lib.hid hm
 have hn:=nums_iff.1 hm.nums
 obtain ⟨hw1,hw2⟩:=hn.w
 obtain ⟨hh1,hh2⟩:=hn.h
 have ew:c.p.w=c.w:=rfl
 have eh:c.p.h=c.h:=rfl
 rw [ew] at hw1 hw2
 rw [eh] at hh1 hh2
 obtain ⟨W,hW⟩: ∃ W:Nat,c.w=(W:Int):=⟨c.w.toNat,by omega⟩
 obtain ⟨H,hH⟩: ∃ H:Nat,c.h=(H:Int):=⟨c.h.toNat,by omega⟩
 have HW:=Lib.hid hW
 have HH:=Lib.hid hH
 have hW16:W<=16:=by omega
 have hH16:H<=16:=by omega
 have hW1:1<=W:=by omega
 obtain ⟨R,hR⟩: ∃ R,R=c.robots.l.length:=⟨_,rfl⟩
 have hR8:c.robots.l.length<=8:=hm.robots8
 have hsl:=hu.stacks
 have hz:=Lib.hid hu.sized
 clear hc hn ew eh hR hW hH
 go_enter Tryz.func22,Tryz.ntmps22
 go_wp2_with (first
  |((with_reducible refine wb 1 ?_)
    (refine wl_boxK hK rfl rfl rfl rfl ?_;clear hK;intro w1 b1 hK))
  |(go_at_call 25;(refine (hK.quiet (kn_may HM.out hu hK.lent)).mono ?_;clear hK;rintro e w' ⟨rfl,hK⟩))
  |((with_reducible refine wt 13 ?_)
    (refine wl_loadS (cs:=[.int .i64 c.w,.int .i64 c.h,.int .i64 c.height,c.blocked.val,c.ports.val,c.robots.val,c.stacks.val,.int .i64 c.unit,.int .i64 c.accel,.int .i64 c.speed,.int .i64 c.turn,.int .i64 c.hoist,.int .i64 c.queue,.int .i64 c.resend,.int .i64 c.budget,.bool c.back]) rfl rfl rfl (aggT (by decide)) rfl (hK.blk (b:=b1) (cs:=c.cells) (T:=26)).at0 ?_))
  |((with_reducible refine wt 17 ?_)
    (refine wl_makeK (n:=c.robots.l.length) 0 hK intTy rfl rfl rfl rfl rfl (by omega) (by unfold maxLen;omega) ?_;clear hK;intro adl w17 hK))
  |((with_reducible refine wp_region_stableK (id:=3) hK [0] [rBlk b1 c.cells 26] (by kernel_rfl) (by kernel_rfl) (by simp) (by kernel_rfl) ?_);clear hK;intro w' hK)
  |(with_reducible refine wpC_of ?_)
  |(with_reducible refine atEndC (hK.cls (by simp)) ?_)
  |((with_reducible refine wpC_end' ?_);refine wpC_nil ⟨by kernel_rfl,stays_loadSK rfl rfl rfl rfl (aggT (by decide)) (rest:=stays_nil),?_⟩)
  |((with_reducible refine wb 19 ?_)
    (refine wl_boxK hK rfl rfl rfl rfl ?_;clear hK;intro w19 b19 hK))
  |go_big_skip
  |go_big_skip
  |((with_reducible refine wl ?_);refine ldQ ?_)
  |(with_reducible refine en ?_))
 replace hK:=(hK.nil 85 elStack).push1 (r:=rMany []) ⟨Mod.refl _ _,fun _=>False,rMany_p.2 (fun _ h=>h),fun _ h=>h.elim⟩
 replace hK:Know w w19 none' [rMany (([]:List StackV).map rdRes),rOw 85 elStack (.slice none 0 0) [],rBlk b19 [.int .i64 c.w,.int .i64 c.h,.int .i64 c.height,c.blocked.val,c.ports.val,c.robots.val,c.stacks.val,.int .i64 c.unit,.int .i64 c.accel,.int .i64 c.speed,.int .i64 c.turn,.int .i64 c.hoist,.int .i64 c.queue,.int .i64 c.resend,.int .i64 c.budget,.bool c.back,.slice none 0 0,.slice adl c.robots.l.length c.robots.l.length] 102,rOw 3 elInt (.slice adl c.robots.l.length c.robots.l.length) (List.replicate c.robots.l.length 0),rBlk b1 c.cells 26] [rRd elStack c.stacks.val c.stacks.l,rStacks c.stacks,rConf c]:=hK
 go_loopg [5,6,7,8,9] H (fun k y _ _ _ _ wr=> ∃ (n:Nat) (cl:List StackV) (ad:Option Addr) (N cap:Nat),y=.int .i64 n/\k=H - n/\n<=H/\Hid (N=cl.length)/\Hid (cl.map StackV.p=toldTo c.p (SM.start c.p).f (n*W))/\
  Know w wr none' [rMany (cl.map rdRes),rOw 85 elStack (.slice ad N cap) cl,rBlk b19 [.int .i64 c.w,.int .i64 c.h,.int .i64 c.height,c.blocked.val,c.ports.val,c.robots.val,c.stacks.val,.int .i64 c.unit,.int .i64 c.accel,.int .i64 c.speed,.int .i64 c.turn,.int .i64 c.hoist,.int .i64 c.queue,.int .i64 c.resend,.int .i64 c.budget,.bool c.back,.slice ad N cap,.slice adl c.robots.l.length c.robots.l.length] 102,rOw 3 elInt (.slice adl c.robots.l.length c.robots.l.length) (List.replicate c.robots.l.length 0),rBlk b1 c.cells 26] [rRd elStack c.stacks.val c.stacks.l,rStacks c.stacks,rConf c])
 case atStart=>exact ⟨0,[],none,0,0,rfl,by omega,Nat.zero_le _,rfl,(by show _=_;rw [Nat.zero_mul];rfl),hK⟩
 case round=>
  obtain ⟨y,cl,ad,N,cap,rfl,rfl,hy,hN,hcl,hK⟩:=hrel
  by_cases hyl:y<H
  · have y1:decide ((y:Int)<c.h)=true:=decide_eq_true (by rw [HH.out];omega)
    go_wp2_with (first
     |go_big_skip
     |go_big_skip
     |((with_reducible refine wl ?_);refine ldQ ?_)
     |(with_reducible refine en ?_))
    go_loopg [6,7,8,9] W (fun k x _ _ _ wr=> ∃ (n:Nat) (cl:List StackV) (ad:Option Addr) (N cap:Nat),x=.int .i64 n/\k=W - n/\n<=W/\Hid (N=cl.length)/\Hid (cl.map StackV.p=toldTo c.p (SM.start c.p).f (y*W+n))/\
     Know w wr none' [rMany (cl.map rdRes),rOw 85 elStack (.slice ad N cap) cl,rBlk b19 [.int .i64 c.w,.int .i64 c.h,.int .i64 c.height,c.blocked.val,c.ports.val,c.robots.val,c.stacks.val,.int .i64 c.unit,.int .i64 c.accel,.int .i64 c.speed,.int .i64 c.turn,.int .i64 c.hoist,.int .i64 c.queue,.int .i64 c.resend,.int .i64 c.budget,.bool c.back,.slice ad N cap,.slice adl c.robots.l.length c.robots.l.length] 102,rOw 3 elInt (.slice adl c.robots.l.length c.robots.l.length) (List.replicate c.robots.l.length 0),rBlk b1 c.cells 26] [rRd elStack c.stacks.val c.stacks.l,rStacks c.stacks,rConf c])
    case atStart=>exact ⟨0,cl,ad,N,cap,rfl,by omega,Nat.zero_le _,hN,hcl,hK⟩
    case round=>
     clear hN hcl hK cl ad N cap
     obtain ⟨x,cl,ad,N,cap,rfl,rfl,hx,hN,hcl,hK⟩:=hrel
     by_cases hxl:x<W
     · have x1:decide ((x:Int)<c.w)=true:=decide_eq_true (by rw [HW.out];omega)
       obtain ⟨z,hz0⟩: ∃ z:Cell,z=⟨(x:Int),(y:Int)⟩:=⟨_,rfl⟩
       have hzi:inB c.p z=true:=inB_iff.2 (by
        have ew:c.p.w=c.w:=rfl
        have eh:c.p.h=c.h:=rfl
        rw [ew,eh,HW.out,HH.out,hz0]
        show 0<=(x:Int)/\0<=(y:Int)/\(x:Int)<_/\(y:Int)<_
        omega)
       have hcell:cellAt c.p.w (y*W+x)=z:=by
        refine cellAt_of (w:=c.p.w) (h:=c.p.h) hzi ?_
        have ew:c.p.w=c.w:=rfl
        rw [ew,HW.out,hz0]
        show (y:Int)*(W:Int)+(x:Int)=_
        rw [Int.natCast_add,Int.natCast_mul]
       have hT:=toldTo_succ (c:=c.p) (f:=(SM.start c.p).f) (y*W+x)
       unfold tellOne at hT
       rw [hcell] at hT
       have hlen:cl.length<=y*W+x:=by
        have h1:=congrArg List.length hcl.out
        rw [List.length_map] at h1
        rw [h1]
        exact toldTo_le _
       have hbd:y*W+x<=256:=by
        have h1:y*W<=15*16:=Nat.mul_le_mul (by omega) hW16
        omega
       have hlen2:cl.length<=256:=by omega
       have HZ:=Lib.hid hz0
       have HZx:Hid (z.x=(x:Int)):=by show _=_;rw [hz0]
       have HZy:Hid (z.y=(y:Int)):=by show _=_;rw [hz0]
       obtain ⟨op,hop⟩: ∃ b,b=openB c.p z:=⟨_,rfl⟩
       have kO:=Lib.hid (fun (W:World) (h:Has W (rConf c))=>show Calls Tryz.prog 44 #[.agg c.cells.toArray,.agg z.cells.toArray] W (Ret (.bool op) W) by rw [hop];exact ref_open h hz.out)
       rw [<-hop] at hT
       have hx15:x<=15:=by omega
       have hy15:y<=15:=by omega
       clear hz0 hzi hcell hlen hbd hop
       have HZc:Hid ([Value.int .i64 (x:Int),.int .i64 (y:Int)]=z.cells):=by show _=[Value.int .i64 z.x,.int .i64 z.y];rw [HZx.out,HZy.out]
       cases op
       · have HT:=Lib.hid (show toldTo c.p (SM.start c.p).f (y*W+x+1)=toldTo c.p (SM.start c.p).f (y*W+x) by simpa using hT)
         clear hT
         go_wp2_with (first
          |((with_reducible refine wl_at (o:=⟨some 7,.alloc _,_,_,_,_⟩) ?_)
            (refine wl_allocK (z:=.agg ([.int .i64 0,.int .i64 0]).toArray) (zs:=[.int .i64 0,.int .i64 0]) hK rfl rfl (by kernel_rfl) rfl ?_;clear hK;intro w7 b7 hK))
          |((with_reducible refine wl_at (o:=⟨none,.store 34 _ _,_,_,_,_⟩) ?_)
            (refine wl_storeWK (vs:=[.int .i64 (x:Int),.int .i64 (y:Int)]) hK rfl rfl rfl rfl (aggS (by decide)) (by simp [Value.oneCell']) (h:=?_);clear hK;intro w' hK;simp only [z0,z1] at hK;rw [HZc.out] at hK))
          |(go_at_call 44;(refine (hK.quiet (kO.out _ hK.lent)).mono ?_;clear hK;rintro e w' ⟨rfl,hK⟩))
          |go_big_skip
          |go_big_skip
          |((with_reducible refine wl ?_);refine ldQ ?_)
          |(with_reducible refine en ?_))
         go_roundg (W - (x+1))
         case measure=>omega
         case rel=>exact ⟨x+1,cl,ad,N,cap,by go_num,rfl,by omega,hN,(by show _=_;rw [<-Nat.add_assoc,HT.out];exact hcl.out),hK.sub (.cons _ (List.Sublist.refl _))⟩
       · have HT:=Lib.hid (show toldTo c.p (SM.start c.p).f (y*W+x+1)=toldTo c.p (SM.start c.p).f (y*W+x)++[⟨z,binsIn c.p.stacks z⟩] by have h:=hT;simp at h;exact h)
         clear hT
         go_wp2_with (first
          |((with_reducible refine wl_at (o:=⟨some 7,.alloc _,_,_,_,_⟩) ?_)
            (refine wl_allocK (z:=.agg ([.int .i64 0,.int .i64 0]).toArray) (zs:=[.int .i64 0,.int .i64 0]) hK rfl rfl (by kernel_rfl) rfl ?_;clear hK;intro w7 b7 hK))
          |((with_reducible refine wl_at (o:=⟨none,.store 34 _ _,_,_,_,_⟩) ?_)
            (refine wl_storeWK (vs:=[.int .i64 (x:Int),.int .i64 (y:Int)]) hK rfl rfl rfl rfl (aggS (by decide)) (by simp [Value.oneCell']) (h:=?_);clear hK;intro w' hK;simp only [z0,z1] at hK;rw [HZc.out] at hK))
          |(go_at_call 44;(refine (hK.quiet (kO.out _ hK.lent)).mono ?_;clear hK;rintro e w' ⟨rfl,hK⟩))
          |((with_reducible refine wt 39 ?_);(refine wl_loadS (cs:=[.int .i64 z.x,.int .i64 z.y]) rfl rfl rfl (aggT (by decide)) rfl (hK.blk (b:=b7) (cs:=z.cells) (T:=34)).at0 ?_))
          |((with_reducible refine wl_at (o:=⟨some 8,.alloc _,_,_,_,_⟩) ?_)
            (refine wl_allocK (z:=.agg (stackZ).toArray) (zs:=stackZ) hK rfl rfl (by kernel_rfl) rfl ?_;clear hK;intro w8 b8 hK))
          |((with_reducible refine wl_at (o:=⟨none,.store 85 _ _,_,_,_,_⟩) ?_)
            (refine wl_storeWK (vs:=[.int .i64 z.x,.int .i64 z.y,.slice none 0 0]) hK rfl rfl rfl rfl (aggS (by decide)) (by simp [Value.oneCell']) (h:=?_);clear hK;intro w' hK;simp only [z0,z1] at hK))
          |go_big_skip
          |go_big_skip
          |((with_reducible refine wl ?_);refine ldQ ?_)
          |(with_reducible refine en ?_))
         replace hK:=hK.nil 3 elInt
         go_loopg [9] c.stacks.l.length (fun k i wr=> ∃ (j:Nat) (bs:Sv Int) (Z:List Res),i=.int .i64 j/\k=c.stacks.l.length - j/\j<=c.stacks.l.length/\Hid (bs.l=binsIn (c.p.stacks.take j) z)/\
          Know w wr none' [rOw 3 elInt bs.val bs.l,rBlk b8 [.int .i64 z.x,.int .i64 z.y,bs.val] 85,rBlk b7 z.cells 34,rMany (cl.map rdRes),rOw 85 elStack (.slice ad N cap) cl,rBlk b19 [.int .i64 c.w,.int .i64 c.h,.int .i64 c.height,c.blocked.val,c.ports.val,c.robots.val,c.stacks.val,.int .i64 c.unit,.int .i64 c.accel,.int .i64 c.speed,.int .i64 c.turn,.int .i64 c.hoist,.int .i64 c.queue,.int .i64 c.resend,.int .i64 c.budget,.bool c.back,.slice ad N cap,.slice adl c.robots.l.length c.robots.l.length] 102,rOw 3 elInt (.slice adl c.robots.l.length c.robots.l.length) (List.replicate c.robots.l.length 0),rBlk b1 c.cells 26] [rRd elStack c.stacks.val c.stacks.l,rStacks c.stacks,rConf c])
         case atStart=>exact ⟨0,⟨none,[],0⟩,[],rfl,by omega,Nat.zero_le _,rfl,hK⟩
         case round=>
          obtain ⟨j,bs,_,rfl,rfl,hj,hbs,hK⟩:=hrel
          by_cases hjl:j<c.stacks.l.length
          · obtain ⟨u,hu0⟩: ∃ u,c.stacks.l[j]?=some u:=⟨_,List.getElem?_eq_getElem hjl⟩
            have hup:c.p.stacks[j]?=some u.p:=by show (c.stacks.l.map StackV.p)[j]?=_;rw [List.getElem?_map,hu0];rfl
            have htk:c.p.stacks.take (j+1)=c.p.stacks.take j++[u.p]:=by rw [List.take_add_one,hup];rfl
            have hnew:u.p.at_ ∉ (c.p.stacks.take j).map (·.at_):=by
             have h1:=hm.stacks1.sublist ((List.take_sublist (j+1) c.p.stacks).map (·.at_))
             rw [htk,List.map_append,List.nodup_append] at h1
             exact fun h=>h1.2.2 _ h u.p.at_ (by simp) rfl
            have hub:=hu.bins u (List.mem_of_getElem? hu0)
            have HU:=Lib.hid hu0
            have HMu:=Lib.hid (List.mem_of_getElem? hu0)
            have hsn:binsIn (c.p.stacks.take (j+1)) z=if z=u.at_ then u.bins.l else binsIn (c.p.stacks.take j) z:=by
             have:=binsIn_snoc hnew z
             rw [<-htk] at this
             exact this
            by_cases he:u.at_=z
            · have d1:decide (u.at_=z)=true:=decide_eq_true he
              rw [if_pos he.symm] at hsn
              have hb0:bs.l=[]:=by rw [hbs.out];exact binsIn_none (by rw [<-he];exact hnew)
              obtain ⟨ba,bl,bc⟩:=bs
              simp only at hb0
              subst hb0
              have HSN:=Lib.hid hsn
              clear hu0 hup htk hnew hsn he hbs
              go_wp2_with (first
               |((with_reducible refine wt 51 ?_);(refine wl_ixK (xs:=c.stacks.l) (u:=u) hK rfl rfl rfl rfl stackTy.und stackTy.size (hu:=HU) (h:=?_);intro b51 k51 hat51))
               |((with_reducible refine wt 61 ?_);(refine wl_ixK (xs:=c.stacks.l) (u:=u) hK rfl rfl rfl rfl stackTy.und stackTy.size (hu:=HU) (h:=?_);intro b61 k61 hat61))
               |((with_reducible refine wt 53 ?_)
                 (refine wl_loadP0 (Cell.cells (u.at_)) rfl rfl rfl (aggT (by decide)) (h:=?_)))
               |((with_reducible refine wl_at (o:=⟨_,.binOp .eql 34 _ _ _,_,_,_,_⟩) ?_)
                 (refine wl_eqlC cellEq rfl rfl rfl rfl ?_))
               |((with_reducible refine wl_at (o:=⟨_,.binOp .neq 34 _ _ _,_,_,_,_⟩) ?_)
                 (refine wl_neqC cellEq rfl rfl rfl rfl ?_))
               |((with_reducible refine wt 64 ?_)
                 (refine wl_appK (xs:=([]:List Int)) (ys:=u.bins.l) (v:=.slice ba 0 bc) hK intTy rfl rfl rfl rfl (Has.bins (hK.lent (r:=rStacks c.stacks)) u HMu.out) (by simp;unfold maxLen;omega) (by simp;omega) (h:=?_);clear hK;intro ad2 N2 cap2 w64 hN2 hK;simp only [List.nil_append] at hN2 hK;subst hN2;simp only [z0,z1] at hK))
               |((with_reducible refine wl_at (o:=⟨none,.store 53 _ _,_,_,_,_⟩) ?_);(refine wl_storeK hK rfl rfl rfl rfl (sizT (by decide)) rfl (hk:=by simp) (h:=?_);clear hK;intro w' hK;simp only [z0,z1] at hK))
               |((with_reducible refine tx 16 hK ?_);clear hK;intro w' hK)
               |((with_reducible refine tx 17 hK ?_);clear hK;intro w' hK)
               |go_big_skip
               |((with_reducible refine wl ?_);refine ldQ ?_)
               |(with_reducible refine en ?_))
              all_goals first|(exact absurd (of_decide_eq_true d1) (by assumption))|skip
              go_roundg (c.stacks.l.length - (j+1))
              case measure=>omega
              case rel=>exact ⟨j+1,⟨ad2,u.bins.l,cap2⟩,[],by go_num,rfl,by omega,HSN.out.symm,hK⟩
            · have d1:decide (u.at_=z)=false:=decide_eq_false he
              rw [if_neg (fun h=>he h.symm)] at hsn
              have HSN:=Lib.hid hsn
              clear hu0 hup htk hnew hsn he
              go_wp2_with (first
               |((with_reducible refine wt 51 ?_);(refine wl_ixK (xs:=c.stacks.l) (u:=u) hK rfl rfl rfl rfl stackTy.und stackTy.size (hu:=HU) (h:=?_);intro b51 k51 hat51))
               |((with_reducible refine wt 53 ?_)
                 (refine wl_loadP0 (Cell.cells (u.at_)) rfl rfl rfl (aggT (by decide)) (h:=?_)))
               |((with_reducible refine wl_at (o:=⟨_,.binOp .eql 34 _ _ _,_,_,_,_⟩) ?_)
                 (refine wl_eqlC cellEq rfl rfl rfl rfl ?_))
               |((with_reducible refine wl_at (o:=⟨_,.binOp .neq 34 _ _ _,_,_,_,_⟩) ?_)
                 (refine wl_neqC cellEq rfl rfl rfl rfl ?_))
               |((with_reducible refine tx 16 hK ?_);clear hK;intro w' hK)
               |go_big_skip
               |((with_reducible refine wl ?_);refine ldQ ?_)
               |(with_reducible refine en ?_))
              all_goals first|(exact absurd (by assumption:u.at_=z) (of_decide_eq_false d1))|skip
              go_roundg (c.stacks.l.length - (j+1))
              case measure=>omega
              case rel=>exact ⟨j+1,bs,[],by go_num,rfl,by omega,(by show _=_;rw [HSN.out];exact hbs.out),hK⟩
          · obtain rfl:j=c.stacks.l.length:=by omega
            have hbs2:=Lib.hid (show bs.l=binsIn c.p.stacks z by
             rw [hbs.out,List.take_of_length_le (by show (c.stacks.l.map StackV.p).length<=_;rw [List.length_map];exact Nat.le_refl _)])
            clear hbs
            go_wp2_with (first
             |((with_reducible refine wt 72 ?_);(refine wl_buildK 85 elStack [(⟨z,bs⟩:StackV)] hK rfl rfl (fun W=>by kernel_rfl) rfl (by decide) ?_;clear hK;intro adb w72 hK))
             |((with_reducible refine wt 73 ?_)
               (refine wl_appK (xs:=cl) (ys:=[(⟨z,bs⟩:StackV)]) hK stackTy rfl rfl rfl rfl hK.rd (by simp;unfold maxLen;omega) (by simp;omega) (h:=?_);clear hK;intro ad2 N2 cap2 w73 hN2 hK;have HN2:=Lib.hid hN2;clear hN2;simp only [z0,z1] at hK))
             |((with_reducible refine wl_at (o:=⟨none,.store 24 _ _,_,_,_,_⟩) ?_);(refine wl_storeK hK rfl rfl rfl rfl (sizT (by decide)) rfl (hk:=by simp) (h:=?_);clear hK;intro w' hK;simp only [z0,z1] at hK))
             |((with_reducible refine tx 18 hK ?_);clear hK;intro w' hK)
             |go_big_skip
             |((with_reducible refine wl ?_);refine ldQ ?_)
             |(with_reducible refine en ?_))
            replace hK:=hK.sub (.cons _ (.cons_cons _ (.cons _ (.cons _ (List.Sublist.refl _)))))
            replace hK:=hK.seen (r':=rdRes ⟨z,bs⟩) (fun w S hr=>rOw_rd hr) .head
            simp only [List.set_cons_zero] at hK
            replace hK:=hK.putLast
            go_roundg (W - (x+1))
            case measure=>omega
            case rel=>
             refine ⟨x+1,cl++[⟨z,bs⟩],ad2,N2,cap2,by go_num,rfl,by omega,HN2,?_,?_⟩
             · show _=_
               rw [<-Nat.add_assoc,HT.out,List.map_append,hcl.out,<-hbs2.out]
               rfl
             · rw [List.map_append]
               exact hK
     · obtain rfl:x=W:=by omega
       have x1:decide ((x:Int)<c.w)=false:=decide_eq_false (by rw [HW.out];omega)
       go_wp2_with (first
        |go_big_skip
        |go_big_skip
        |((with_reducible refine wl ?_);refine ldQ ?_)
        |(with_reducible refine en ?_))
       go_roundg (H - (y+1))
       case measure=>omega
       case rel=>exact ⟨y+1,cl,ad,N,cap,by go_num,rfl,by omega,hN,(by show _=_;rw [Nat.succ_mul];exact hcl.out),hK⟩
  · obtain rfl:y=H:=by omega
    have y1:decide ((y:Int)<c.h)=false:=decide_eq_false (by rw [HH.out];omega)
    go_wp2_with (first
     |go_big_skip
     |go_big_skip
     |((with_reducible refine wl ?_);refine ldQ ?_)
     |(with_reducible refine en ?_))
    go_ret2
    have hA:areaOf c.p=y*W:=by
     unfold areaOf
     have ew:c.p.w=c.w:=rfl
     have eh:c.p.h=c.h:=rfl
     rw [ew,eh,HW.out,HH.out,Int.mul_comm,<-Int.natCast_mul,Int.toNat_natCast]
    refine ⟨b19,rfl,?_⟩
    have hv:RfOk c ⟨b19,⟨ad,cl,cap⟩,⟨adl,List.replicate c.robots.l.length 0,c.robots.l.length⟩⟩ (SM.start c.p):=by
     refine ⟨?_,rfl,start_ok HY.out⟩
     show cl.map StackV.p=SM.told c.p (SM.start c.p)
     unfold SM.told
     rw [hA]
     exact hcl.out
    refine Turns.ref (v:=⟨b19,⟨ad,cl,cap⟩,⟨adl,List.replicate c.robots.l.length 0,c.robots.l.length⟩⟩) ?_ hv
    have hl:(List.replicate c.robots.l.length (0:Int)).length=c.robots.l.length:=List.length_replicate
    have e1:(⟨adl,List.replicate c.robots.l.length 0,c.robots.l.length⟩:Sv Int).val=.slice adl c.robots.l.length c.robots.l.length:=by show Value.slice _ _ _=_;rw [hl]
    have e2:(⟨ad,cl,cap⟩:Sv StackV).val=.slice ad N cap:=by show Value.slice _ _ _=_;rw [hN.out]
    unfold rRf rfCells
    rw [e1,e2]
    replace hK:=hK.sub (M':=[rMany (cl.map rdRes),rOw 85 elStack (.slice ad N cap) cl,rBlk b19 [.int .i64 c.w,.int .i64 c.h,.int .i64 c.height,c.blocked.val,c.ports.val,c.robots.val,c.stacks.val,.int .i64 c.unit,.int .i64 c.accel,.int .i64 c.speed,.int .i64 c.turn,.int .i64 c.hoist,.int .i64 c.queue,.int .i64 c.resend,.int .i64 c.budget,.bool c.back,.slice ad N cap,.slice adl c.robots.l.length c.robots.l.length] 102,rOw 3 elInt (.slice adl c.robots.l.length c.robots.l.length) (List.replicate c.robots.l.length 0)]) (.cons_cons _ (.cons_cons _ (.cons_cons _ (.cons_cons _ (.cons _ .slnil)))))
    replace hK:=hK.pull (.tail (.tail .head))
    have hK2:Know w _ none' [rBlk b19 (c.cells++[.slice ad N cap,.slice adl c.robots.l.length c.robots.l.length]) 102,rMany (cl.map rdRes),rOw 85 elStack (.slice ad N cap) cl,rOw 3 elInt (.slice adl c.robots.l.length c.robots.l.length) (List.replicate c.robots.l.length 0)] [rRd elStack c.stacks.val c.stacks.l,rStacks c.stacks,rConf c]:=hK
    exact (hK2.pull (.tail .head)).turns
end Go.Proofs.YtngeeilkpnihmaaGreatDoor
