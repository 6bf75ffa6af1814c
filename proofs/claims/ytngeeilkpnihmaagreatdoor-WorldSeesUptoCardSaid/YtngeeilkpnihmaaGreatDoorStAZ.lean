/- Texts of mine that belong together: Cp1, Cp2, Fr, St1, St2, St3, St4, Cp3. -/
import Derived.Test.YtngeeilkpnihmaaGreatDoorRefAZ
import Derived.Test.YtngeeilkpnihmaaGreatDoorSkBZ
import Derived.Test.YtngeeilkpnihmaaGreatDoorGrAZ
import Derived.Deep.RegionHeld3
set_option linter.all false
namespace Go.Proofs.YtngeeilkpnihmaaGreatDoor
open Go Go.Sk Go.RowKit
set_option maxRecDepth 100000
set_option maxHeartbeats 1000000 in
theorem sameInts_calls {a b:Sv Int} {w:World} (h1:Rd w elInt a.val a.l) (h2:Rd w elInt b.val b.l) (hl:a.l.length<=9223372036854775807):Calls Tryz.prog 21 #[a.val,b.val] w (Ret (.bool (decide (a.l=b.l))) w):=by
 have hK:Know w w none' [] [rRd elInt a.val a.l,rRd elInt b.val b.l]:=Know.start w (by
  intro r hr
  simp only [List.mem_cons,List.not_mem_nil,or_false] at hr
  rcases hr with rfl|rfl
  · exact h1.has
  · exact h2.has)
 obtain ⟨q,hq⟩: ∃ q,q=decide (a.l=b.l):=⟨_,rfl⟩
 rw [<-hq]
 have HQ:=Lib.hid hq
 clear hq
 by_cases hlen:a.l.length=b.l.length
 · have e1:(((a.l.length:Nat):Int) !=((b.l.length:Nat):Int))=false:=by simp [hlen]
   have HE:=Lib.hid hlen
   clear hlen
   go_enter Tryz.func21,Tryz.ntmps21
   go_wp2_with (first
    |go_big_skip
    |((with_reducible refine wl ?_);refine ld ?_)
    |(with_reducible refine en ?_))
   go_loopw [5,4] (fun i r wr=> ∃ j:Nat,i=.int .i64 j/\r=.bool false/\j<=a.l.length/\Hid (a.l.take j=b.l.take j)/\Know w wr none' [] [rRd elInt a.val a.l,rRd elInt b.val b.l]) (fun i _ _=>a.l.length - (intOf i).toNat)
   case atStart=>exact ⟨0,rfl,rfl,Nat.zero_le _,rfl,hK⟩
   case round=>
    obtain ⟨j,rfl,rfl,hj,hT,hK⟩:=hrel
    by_cases hlt:j<a.l.length
    · obtain ⟨u,hu⟩: ∃ u,a.l[j]?=some u:=⟨_,List.getElem?_eq_getElem hlt⟩
      obtain ⟨v,hv⟩: ∃ v,b.l[j]?=some v:=⟨_,List.getElem?_eq_getElem (by rw [<-HE.out];exact hlt)⟩
      have HU:=Lib.hid hu
      have HV:=Lib.hid hv
      clear hu hv
      by_cases huv:u=v
      all_goals
       first|(have e2:(u !=v)=false:=by simp [huv])|(have e2:(u !=v)=true:=by simp [huv])
       have HX:=Lib.hid huv
       clear huv
       go_wp2_with (first
        |((with_reducible refine wt 19 ?_);(refine wl_ixK (u:=u) hK rfl rfl rfl rfl intTy.und intTy.size (xs:=a.l) (hu:=HU) (h:=?_);intro b19 k19 hat19))
        |((with_reducible refine wt 23 ?_);(refine wl_ixK (u:=v) hK rfl rfl rfl rfl intTy.und intTy.size (xs:=b.l) (hu:=HV) (h:=?_);intro b23 k23 hat23))
        |((with_reducible refine tx 6 hK ?_);clear hK;intro w' hK)
        |go_big_skip
        |((with_reducible refine wl ?_);refine ld ?_)
        |(with_reducible refine en ?_))
      · go_roundw
        case rel=>exact ⟨j+1,by go_num,rfl,by omega,(by show _=_;rw [List.take_add_one,List.take_add_one,hT.out,HU.out,HV.out,HX.out]),hK⟩
        case measure=>simp [intOf];omega
      · go_ret
        refine ⟨?_,hK.mod⟩
        have e:q=false:=by
         rw [HQ.out]
         refine decide_eq_false fun h=>HX.out ?_
         have h3:=HU.out
         rw [h,HV.out] at h3
         injection h3 with h3
         exact h3.symm
        rw [e];rfl
    · obtain rfl:j=a.l.length:=by omega
      go_wp2_with (first
       |go_big_skip
       |((with_reducible refine wl ?_);refine ld ?_)
       |(with_reducible refine en ?_))
      go_ret
      refine ⟨?_,hK.mod⟩
      have e:q=true:=by
       rw [HQ.out]
       have h3:=hT.out
       rw [List.take_length,HE.out,List.take_length] at h3
       exact decide_eq_true h3
      rw [e];rfl
 · have e1:(((a.l.length:Nat):Int) !=((b.l.length:Nat):Int))=true:=by simp;omega
   have e2:(a.l.length !=b.l.length)=true:=by simp;omega
   have HE:=Lib.hid hlen
   clear hlen
   go_enter Tryz.func21,Tryz.ntmps21
   go_wp2_with (first
    |go_big_skip
    |((with_reducible refine wl ?_);refine ld ?_)
    |(with_reducible refine en ?_))
   all_goals
    go_ret
    refine ⟨?_,hK.mod⟩
    have e:q=false:=by
     rw [HQ.out]
     exact decide_eq_false fun h=>HE.out (by rw [h])
    rw [e];rfl
set_option maxHeartbeats 400000 in
theorem copyInts_calls {s:Sv Int} {w:World} (h:Rd w elInt s.val s.l) (hl:s.l.length<=1048576):Calls Tryz.prog 74 #[s.val] w fun e w'=> ∃ ad n cap,e=.returned (.slice ad n cap)/\n=s.l.length/\Turn (rOw 3 elInt (.slice ad n cap) s.l) w w' none':=by
 have hK:=Know.start (L:=[rRd elInt s.val s.l]) w (by simpa using h.has)
 go_enter Tryz.func74,Tryz.ntmps74
 go_wp2_with (first
  |((with_reducible refine wt 4 ?_)
    (refine wl_appN (ys:=s.l) hK intTy rfl rfl rfl rfl hK.rd (by unfold maxLen;omega) (by omega) ?_;clear hK;intro ad N cap w4 hN hK;replace hN:=Lib.hid hN))
  |go_big_skip
  |((with_reducible refine wl ?_);refine ld ?_)
  |(with_reducible refine en ?_))
 go_ret
 exact ⟨ad,N,cap,rfl,hN.out,hK.turn⟩
def smallB (c:ConfP):Prop:=c.w<=6/\c.h<=6/\c.budget<=4000/\c.unit<=100/\c.turn<=200/\c.hoist<=200/\c.robots.length<=4/\MayP c
open Classical in
set_option maxHeartbeats 8000000 in
theorem small_calls {c:ConfV} {w:World} (hc:Has w (rConf c)) (hz:Sized c):Calls Tryz.prog 8 #[.agg c.cells.toArray] w (Ret (.bool (decide (smallB c.p))) w):=by
 have hK:=Know.start (L:=[rConf c]) w (by simpa using hc)
 have km:=Lib.hid (fun (W:World) (h:Has W (rConf c))=>ref_may h hz)
 obtain ⟨q,hq⟩: ∃ q,q=decide (smallB c.p):=⟨_,rfl⟩
 rw [<-hq]
 have HQ:=Lib.hid hq
 clear hq
 obtain ⟨m,hm⟩: ∃ m,m=mayB c.p:=⟨_,rfl⟩
 rw [<-hm] at km
 have HM:=Lib.hid hm
 clear hm
 have hbr:=hz.robots
 have hcs:6<c.w\/(c.w<=6/\6<c.h)\/(c.w<=6/\c.h<=6/\4000<c.budget)\/(c.w<=6/\c.h<=6/\c.budget<=4000/\100<c.unit)\/(c.w<=6/\c.h<=6/\c.budget<=4000/\c.unit<=100/\200<c.turn)
  \/(c.w<=6/\c.h<=6/\c.budget<=4000/\c.unit<=100/\c.turn<=200/\200<c.hoist)\/(c.w<=6/\c.h<=6/\c.budget<=4000/\c.unit<=100/\c.turn<=200/\c.hoist<=200/\4<c.robots.l.length)
  \/(c.w<=6/\c.h<=6/\c.budget<=4000/\c.unit<=100/\c.turn<=200/\c.hoist<=200/\c.robots.l.length<=4):=by omega
 have no:Hid (¬ (c.w<=6/\c.h<=6/\c.budget<=4000/\c.unit<=100/\c.turn<=200/\c.hoist<=200/\c.robots.l.length<=4)->q=false):=fun h=>by
  rw [HQ.out]
  exact decide_eq_false fun hs=>h ⟨hs.1,hs.2.1,hs.2.2.1,hs.2.2.2.1,hs.2.2.2.2.1,hs.2.2.2.2.2.1,hs.2.2.2.2.2.2.1⟩
 have yes:Hid ((c.w<=6/\c.h<=6/\c.budget<=4000/\c.unit<=100/\c.turn<=200/\c.hoist<=200/\c.robots.l.length<=4)->q=m):=fun h=>by
  rw [HQ.out,HM.out]
  obtain ⟨h1,h2,h3,h4,h5,h6,h7⟩:=h
  by_cases hm:MayP c.p
  · rw [mayB_true.2 hm]
    exact decide_eq_true ⟨h1,h2,h3,h4,h5,h6,h7,hm⟩
  · rw [mayB_false hm]
    exact decide_eq_false fun hs=>hm hs.2.2.2.2.2.2.2
 rcases hcs with h1|⟨h1,h2⟩|⟨h1,h2,h3⟩|⟨h1,h2,h3,h4⟩|⟨h1,h2,h3,h4,h5⟩|⟨h1,h2,h3,h4,h5,h6⟩|⟨h1,h2,h3,h4,h5,h6,h7⟩|⟨h1,h2,h3,h4,h5,h6,h7⟩
 all_goals
  try (have d1:decide (c.w<=6)=false:=decide_eq_false (by omega))
  try (have d2:decide (c.h<=6)=false:=decide_eq_false (by omega))
  try (have d3:decide (c.budget<=4000)=false:=decide_eq_false (by omega))
  try (have d4:decide (c.unit<=100)=false:=decide_eq_false (by omega))
  try (have d5:decide (c.turn<=200)=false:=decide_eq_false (by omega))
  try (have d6:decide (c.hoist<=200)=false:=decide_eq_false (by omega))
  try (have d7:decide ((c.robots.l.length:Int)<=4)=false:=decide_eq_false (by omega))
  try (have d8:decide ((c.robots.l.length:Int)<=4)=true:=decide_eq_true (by omega))
  go_enter Tryz.func8,Tryz.ntmps8
  go_wp2_with (first
   |((with_reducible refine wb 1 ?_)
     (refine wl_boxK hK rfl rfl rfl rfl ?_;clear hK;intro w1 b1 hK))
   |(go_at_call 25;(refine (hK.quiet (km.out _ (hK.has (by simp)))).mono ?_;clear hK;rintro e w' ⟨rfl,hK⟩))
   |go_big_skip
   |((with_reducible refine wl ?_);refine ld ?_)
   |(with_reducible refine en ?_))
  go_ret
  refine ⟨?_,hK.mod⟩
  first
   |(rw [no.out (by omega)];rfl)
   |(rw [yes.out ⟨by omega,by omega,by omega,by omega,by omega,by omega,by omega⟩];rfl)
end Go.Proofs.YtngeeilkpnihmaaGreatDoor
namespace Go.Proofs.YtngeeilkpnihmaaGreatDoor
open Go Go.Sk Go.RowKit
set_option maxRecDepth 100000
def binRes (s:StackV):Res:=rOw 3 elInt s.bins.val s.bins.l
structure Upto (c:ConfV):Prop where
 blocked:c.blocked.l.length<=1048576
 ports:c.ports.l.length<=1048576
 robots:c.robots.l.length<=1048576
 stacks:c.stacks.l.length<=1048576
 bins: ∀ x∈c.stacks.l,x.bins.l.length<=1048576
set_option maxHeartbeats 2000000 in
theorem copyStacks_calls {s:Sv StackV} {w:World} (h:Has w (rStacks s)) (hl:s.l.length<=1048576) (hb: ∀ x∈s.l,x.bins.l.length<=1048576):Calls Tryz.prog 53 #[s.val] w fun e w'=>
 ∃ t:Sv StackV,e=.returned t.val/\t.l.map StackV.p=s.l.map StackV.p/\Turns [rMany (t.l.map binRes),rOw 85 elStack t.val t.l] w w' none':=by
 have hK:Know w w none' [] [rRd elStack s.val s.l,rStacks s]:=(Know.start (L:=[rStacks s]) w (by simpa using h)).part List.mem_cons_self fun w S h=>rTwo_left w S h
 go_enter Tryz.func53,Tryz.ntmps53
 go_wp2_with (first
  |go_big_skip
  |((with_reducible refine wl ?_);refine ld ?_)
  |(with_reducible refine en ?_))
 replace hK:=(hK.nil 85 elStack).push1 (r:=rMany []) ⟨Mod.refl _ _,fun _=>False,rMany_p.2 (fun _ h=>h),fun _ h=>h.elim⟩
 go_loopw [4,3] (fun i m wr=> ∃ (j:Nat) (ls:List StackV) (ad:Option Addr) (N cap:Nat),i=.int .i64 j/\m=.slice ad N cap/\j<=s.l.length/\N=j/\Hid (ls.length=j)/\Hid (ls.map StackV.p=(s.l.take j).map StackV.p)/\Know w wr none' [rMany (ls.map binRes),rOw 85 elStack (.slice ad N cap) ls] [rRd elStack s.val s.l,rStacks s]) (fun i _ _=>s.l.length - (intOf i).toNat)
 case atStart=>exact ⟨0,[],none,0,0,rfl,rfl,Nat.zero_le _,rfl,rfl,rfl,hK⟩
 case round=>
  obtain ⟨j,ls,ad,N,cap,rfl,rfl,hj,rfl,hN,hP,hK⟩:=hrel
  by_cases hlt:N<s.l.length
  · obtain ⟨u,hu⟩: ∃ u,s.l[N]?=some u:=⟨_,List.getElem?_eq_getElem hlt⟩
    have HU:=Lib.hid hu
    have HM:=Lib.hid (List.mem_of_getElem? hu)
    have hub:=hb u (List.mem_of_getElem? hu)
    have hlsl:ls.length<=1048576:=by rw [hN.out];omega
    clear hu
    go_wp2_with (first
     |((with_reducible refine wp_region_stableK (id:=5) hK [5] [rRd elStack s.val s.l] (by kernel_rfl) (by kernel_rfl) (by simp) (by kernel_rfl) ?_);clear hK;intro w' hK)
     |(with_reducible refine wpC_of ?_)
     |(with_reducible refine atEndC (hK.cls (by simp)) ?_)
     |((with_reducible refine wpC_end' ?_);refine wpC_nil ⟨by kernel_rfl,stays_loadSE [.int .i64 u.at_.x,.int .i64 u.at_.y] rfl rfl rfl rfl (aggT (by decide)) hel14 (by simp) rfl rfl rfl stays_nil,?_⟩)
     |((with_reducible refine wt 14 ?_);(refine wl_ixE (u:=u) hK rfl rfl rfl rfl stackTy.und stackTy.size (hu:=HU) (h:=?_);intro b14 k14 hat14 hel14))
     |((with_reducible refine wt 19 ?_);(refine wl_ixK (u:=u) hK rfl rfl rfl rfl stackTy.und stackTy.size (xs:=s.l) (hu:=HU) (h:=?_);intro b19 k19 hat19))
     |((with_reducible refine wt 16 ?_);(refine wl_loadP0 [.int .i64 u.at_.x,.int .i64 u.at_.y] rfl rfl rfl (aggT (by decide)) (hat:=hat14) (h:=?_)))
     |(go_at_call 74;(refine (copyInts_calls (s:=u.bins) (Has.bins (hK.has (by simp)) u HM.out) hub).mono ?_;rintro e w' ⟨adc,nc,capc,rfl,rfl,hT⟩;replace hK:=hK.push1 hT;clear hT))
     |((with_reducible refine wt 24 ?_);(refine wl_buildK 85 elStack [(⟨u.at_,⟨adc,u.bins.l,capc⟩⟩:StackV)] hK rfl rfl (fun W=>by kernel_rfl) rfl (by decide) ?_;clear hK;intro adb w24 hK))
     |((with_reducible refine wt 25 ?_)
       (refine wl_appK (xs:=ls) (ys:=[(⟨u.at_,⟨adc,u.bins.l,capc⟩⟩:StackV)]) hK stackTy rfl rfl rfl rfl hK.rd (by simp;unfold maxLen;omega) (by simp;omega) (h:=?_);clear hK;intro ad2 N2 cap2 w25 hN2 hK;replace hN2:=Lib.hid hN2;simp only [z0,z1] at hK))
     |go_big_skip
     |((with_reducible refine wl ?_);refine ld ?_)
     |(with_reducible refine en ?_))
    go_roundw
    case rel=>
     have hK3:=(hK.sub (.cons _ (List.Sublist.refl _)))
     have hK5:=hK3.putLast
     refine ⟨N+1,ls++[⟨u.at_,⟨adc,u.bins.l,capc⟩⟩],ad2,N2,cap2,by go_num,rfl,by omega,by rw [hN2.out,List.length_append,hN.out];rfl,by show _=_;rw [List.length_append,hN.out];rfl,?_,?_⟩
     · show _=_
       rw [List.map_append,hP.out,List.take_add_one,HU.out,List.map_append]
       rfl
     · rw [List.map_append]
       exact hK5
    case measure=>simp [intOf];omega
  · obtain rfl:N=s.l.length:=by omega
    go_wp2_with (first
     |go_big_skip
     |((with_reducible refine wl ?_);refine ld ?_)
     |(with_reducible refine en ?_))
    go_ret
    have hle:=hN.out
    refine ⟨⟨ad,ls,cap⟩,by show _=Ending.returned (.slice ad ls.length cap);rw [hle];rfl,?_,?_⟩
    · have:=hP.out
      rw [List.take_length] at this
      exact this
    · show Turns [_,rOw _ elStack (.slice ad ls.length cap) ls] _ _ _
      rw [hle]
      exact hK.turns
def confZ:List Value:=[.int .i64 0,.int .i64 0,.int .i64 0,.slice none 0 0,.slice none 0 0,.slice none 0 0,.slice none 0 0,.int .i64 0,.int .i64 0,.int .i64 0,.int .i64 0,.int .i64 0,.int .i64 0,.int .i64 0,.int .i64 0,.bool false]
def rOwnConf (c:ConfV):List Res:=[rMany (c.stacks.l.map binRes),rOw 85 elStack c.stacks.val c.stacks.l,rOw 36 elPose c.robots.val c.robots.l,rOw 34 elCell c.ports.val c.ports.l,rOw 34 elCell c.blocked.val c.blocked.l]
theorem conf_one (c:ConfV): ∀ v∈c.cells,v.oneCell'=true:=by
 intro v hv
 simp only [ConfV.cells,List.mem_cons,List.not_mem_nil,or_false] at hv
 rcases hv with rfl|rfl|rfl|rfl|rfl|rfl|rfl|rfl|rfl|rfl|rfl|rfl|rfl|rfl|rfl|rfl<;>rfl
set_option maxHeartbeats 2000000 in
theorem copyConf_calls {c:ConfV} {w:World} (h:Has w (rConf c)) (hu:Upto c):Calls Tryz.prog 26 #[.agg c.cells.toArray] w fun e w'=> ∃ d:ConfV,e=.returned (.agg d.cells.toArray)/\d.p=c.p/\Turns (rOwnConf d) w w' none':=by
 have hK:=((Know.start (L:=[rConf c]) w (by simpa using h)).conf (c:=c) (by simp)).subL (L':=[rStacks c.stacks,rRd elCell c.blocked.val c.blocked.l,rRd elCell c.ports.val c.ports.l,rRd elPose c.robots.val c.robots.l]) (by simp)
 have u1:=hu.blocked
 have u2:=hu.ports
 have u3:=hu.robots
 go_enter Tryz.func26,Tryz.ntmps26
 go_wp2_with (first
  |((with_reducible refine wb 1 ?_)
    (refine wl_boxK hK rfl rfl rfl rfl ?_;clear hK;intro w1 b1 hK))
  |((with_reducible refine wl_at (o:=⟨some 2,.alloc _,_,_,_,_⟩) ?_)
    (refine wl_allocK (z:=.agg (confZ).toArray) (zs:=confZ) hK rfl rfl (by kernel_rfl) rfl ?_;clear hK;intro w2 b2 hK))
  |((with_reducible refine wt 5 ?_)
    (refine wl_appN (ys:=c.blocked.l) hK cellTy rfl rfl rfl rfl hK.rd (by unfold maxLen;omega) (by omega) ?_;clear hK;intro ad1 N1 cap1 w5 hN hK;subst hN))
  |((with_reducible refine wt 9 ?_)
    (refine wl_appN (ys:=c.ports.l) hK cellTy rfl rfl rfl rfl (hK.has (r:=rRd elCell c.ports.val c.ports.l) (by simp)).rd (by unfold maxLen;omega) (by omega) ?_;clear hK;intro ad2 N2 cap2 w9 hN hK;subst hN))
  |((with_reducible refine wt 13 ?_)
    (refine wl_appN (ys:=c.robots.l) hK poseTy rfl rfl rfl rfl (hK.has (r:=rRd elPose c.robots.val c.robots.l) (by simp)).rd (by unfold maxLen;omega) (by omega) ?_;clear hK;intro ad3 N3 cap3 w13 hN hK;subst hN))
  |(go_at_call 53;(refine (copyStacks_calls (s:=c.stacks) (hK.has (by simp)) hu.stacks hu.bins).mono ?_;rintro e w' ⟨ts,rfl,hts,hT⟩;replace hK:=hK.push hT;have HTS:=Lib.hid hts;clear hts hT))
  |((with_reducible refine wl_at (o:=⟨none,.store 22 _ (.tmp 5),_,_,_,_⟩) ?_)
    (refine wl_storeK hK rfl rfl rfl rfl (sizT (by decide)) rfl (hk:=by simp [ConfV.cells]) (h:=?_);clear hK;intro w' hK;replace hK:Know w w' none' ([rOw 34 elCell (.slice ad1 c.blocked.l.length cap1) c.blocked.l,rBlk b2 confZ 26,rBlk b1 ({c with blocked:=⟨ad1,c.blocked.l,cap1⟩}:ConfV).cells 26]) [rStacks c.stacks,rRd elCell c.blocked.val c.blocked.l,rRd elCell c.ports.val c.ports.l,rRd elPose c.robots.val c.robots.l]:=hK))
  |((with_reducible refine wl_at (o:=⟨none,.store 22 _ (.tmp 9),_,_,_,_⟩) ?_)
    (refine wl_storeK hK rfl rfl rfl rfl (sizT (by decide)) rfl (hk:=by simp [ConfV.cells]) (h:=?_);clear hK;intro w' hK;replace hK:Know w w' none' ([rOw 34 elCell (.slice ad2 c.ports.l.length cap2) c.ports.l,rOw 34 elCell (.slice ad1 c.blocked.l.length cap1) c.blocked.l,rBlk b2 confZ 26,rBlk b1 ({c with blocked:=⟨ad1,c.blocked.l,cap1⟩,ports:=⟨ad2,c.ports.l,cap2⟩}:ConfV).cells 26]) [rStacks c.stacks,rRd elCell c.blocked.val c.blocked.l,rRd elCell c.ports.val c.ports.l,rRd elPose c.robots.val c.robots.l]:=hK))
  |((with_reducible refine wl_at (o:=⟨none,.store 23 _ (.tmp 13),_,_,_,_⟩) ?_)
    (refine wl_storeK hK rfl rfl rfl rfl (sizT (by decide)) rfl (hk:=by simp [ConfV.cells]) (h:=?_);clear hK;intro w' hK;replace hK:Know w w' none' ([rOw 36 elPose (.slice ad3 c.robots.l.length cap3) c.robots.l,rOw 34 elCell (.slice ad2 c.ports.l.length cap2) c.ports.l,rOw 34 elCell (.slice ad1 c.blocked.l.length cap1) c.blocked.l,rBlk b2 confZ 26,rBlk b1 ({c with blocked:=⟨ad1,c.blocked.l,cap1⟩,ports:=⟨ad2,c.ports.l,cap2⟩,robots:=⟨ad3,c.robots.l,cap3⟩}:ConfV).cells 26]) [rStacks c.stacks,rRd elCell c.blocked.val c.blocked.l,rRd elCell c.ports.val c.ports.l,rRd elPose c.robots.val c.robots.l]:=hK))
  |((with_reducible refine wl_at (o:=⟨none,.store 24 _ (.tmp 17),_,_,_,_⟩) ?_)
    (refine wl_storeK hK rfl rfl rfl rfl (sizT (by decide)) rfl (hk:=by simp [ConfV.cells]) (h:=?_);clear hK;intro w' hK;replace hK:Know w w' none' ([rMany (ts.l.map binRes),rOw 85 elStack ts.val ts.l,rOw 36 elPose (.slice ad3 c.robots.l.length cap3) c.robots.l,rOw 34 elCell (.slice ad2 c.ports.l.length cap2) c.ports.l,rOw 34 elCell (.slice ad1 c.blocked.l.length cap1) c.blocked.l,rBlk b2 confZ 26,rBlk b1 ({c with blocked:=⟨ad1,c.blocked.l,cap1⟩,ports:=⟨ad2,c.ports.l,cap2⟩,robots:=⟨ad3,c.robots.l,cap3⟩,stacks:=ts}:ConfV).cells 26]) [rStacks c.stacks,rRd elCell c.blocked.val c.blocked.l,rRd elCell c.ports.val c.ports.l,rRd elPose c.robots.val c.robots.l]:=hK))
  |((with_reducible refine wl_at (o:=⟨none,.store 26 _ _,_,_,_,_⟩) ?_)
    (refine wl_storeWK (vs:=({c with blocked:=⟨ad1,c.blocked.l,cap1⟩,ports:=⟨ad2,c.ports.l,cap2⟩,robots:=⟨ad3,c.robots.l,cap3⟩,stacks:=ts}:ConfV).cells) hK rfl rfl rfl rfl (aggS (by decide)) (conf_one _) (h:=?_);clear hK;intro w' hK;simp only [z0,z1] at hK))
  |go_big_skip
  |((with_reducible refine wl ?_);refine ld ?_)
  |(with_reducible refine en ?_))
 refine bodyPost_ret (res_cellS rfl _ rfl (by kernel_rfl) rfl (hK.blk (b:=b2) (cs:=({c with blocked:=⟨ad1,c.blocked.l,cap1⟩,ports:=⟨ad2,c.ports.l,cap2⟩,robots:=⟨ad3,c.robots.l,cap3⟩,stacks:=ts}:ConfV).cells)).at0) rfl ⟨({c with blocked:=⟨ad1,c.blocked.l,cap1⟩,ports:=⟨ad2,c.ports.l,cap2⟩,robots:=⟨ad3,c.robots.l,cap3⟩,stacks:=ts}:ConfV),rfl,?_,(hK.sub (M':=rOwnConf ({c with blocked:=⟨ad1,c.blocked.l,cap1⟩,ports:=⟨ad2,c.ports.l,cap2⟩,robots:=⟨ad3,c.robots.l,cap3⟩,stacks:=ts}:ConfV)) (.cons_cons _ (.cons_cons _ (.cons_cons _ (.cons_cons _ (.cons_cons _ (.cons _ (.cons _ .slnil)))))))).turns⟩
 show ConfP.mk _ _ _ _ _ _ _ _ _ _ _ _ _ _ _ _=ConfP.mk _ _ _ _ _ _ _ _ _ _ _ _ _ _ _ _
 rw [HTS.out]
end Go.Proofs.YtngeeilkpnihmaaGreatDoor
namespace Go.Proofs.YtngeeilkpnihmaaGreatDoor
open Go Go.Sk Go.RowKit
set_option maxRecDepth 100000
theorem rMany_has {W:World} {rs:List Res} (h:Has W (rMany rs)): ∀ r∈rs,Has W r:=by
 obtain ⟨S,h⟩:=h
 intro r hr
 exact (rMany_p.1 h).has hr
theorem stacks_has {t:Sv StackV} {w:World} (h1:Has w (rMany (t.l.map binRes))) (h2:Has w (rOw 85 elStack t.val t.l)):Has w (rStacks t):=by
 unfold rStacks
 refine Has.two.2 ⟨h2.ord.has,Has.all.2 fun r hr=>?_⟩
 obtain ⟨x,hx,rfl⟩:=List.mem_map.1 hr
 have:=rMany_has h1 (binRes x) (List.mem_map_of_mem hx)
 unfold binRes at this
 exact this.ord.has
def rDup (d:ConfV):Res:=rMany (rOwnConf d)
theorem Upto.sized {c:ConfV} (h:Upto c):Sized c:=
 ⟨by have:=h.blocked;omega,by have:=h.ports;omega,by have:=h.robots;omega,by have:=h.stacks;omega,fun x hx=>by have:=h.bins x hx;omega⟩
theorem upto_p {c d:ConfV} (h:d.p=c.p) (hu:Upto c):Upto d:=by
 have h1:d.blocked.l=c.blocked.l:=congrArg ConfP.blocked h
 have h2:d.ports.l=c.ports.l:=congrArg ConfP.ports h
 have h3:d.robots.l=c.robots.l:=congrArg ConfP.robots h
 have h4:d.stacks.l.map StackV.p=c.stacks.l.map StackV.p:=congrArg ConfP.stacks h
 refine ⟨by rw [h1];exact hu.blocked,by rw [h2];exact hu.ports,by rw [h3];exact hu.robots,?_,fun x hx=>?_⟩
 · have:=congrArg List.length h4
   rw [List.length_map,List.length_map] at this
   rw [this];exact hu.stacks
 · have h5:x.p∈c.stacks.l.map StackV.p:=by rw [<-h4];exact List.mem_map_of_mem hx
   obtain ⟨y,hy,he⟩:=List.mem_map.1 h5
   have h6:y.bins.l=x.bins.l:=congrArg StackP.bins he
   rw [<-h6];exact hu.bins y hy
theorem dup_calls {c:ConfV} {w:World} (h:Has w (rConf c)) (hu:Upto c):Calls Tryz.prog 26 #[.agg c.cells.toArray] w fun e w'=> ∃ d:ConfV,e=.returned (.agg d.cells.toArray)/\d.p=c.p/\Turn (rDup d) w w' none':=by
 refine (copyConf_calls h hu).mono ?_
 rintro e w' ⟨d,rfl,hd,hm,S',k1,k2⟩
 exact ⟨d,rfl,hd,hm,S',rMany_p.2 k1,k2⟩
theorem dup_has {d:ConfV} {w:World} (h:Has w (rDup d)):Has w (rConf d):=by
 have g:=rMany_has h
 refine Has.all.2 fun r hr=>?_
 simp only [List.mem_cons,List.not_mem_nil,or_false] at hr
 rcases hr with rfl|rfl|rfl|rfl
 · exact (g (rOw 34 elCell d.blocked.val d.blocked.l) (by simp [rOwnConf])).ord.has
 · exact (g (rOw 34 elCell d.ports.val d.ports.l) (by simp [rOwnConf])).ord.has
 · exact (g (rOw 36 elPose d.robots.val d.robots.l) (by simp [rOwnConf])).ord.has
 · exact stacks_has (g _ (by simp [rOwnConf])) (g _ (by simp [rOwnConf]))
open Classical in
theorem kn_small {c:ConfV} {b:Bool} {w:World} (hb:decide (smallB c.p)=b) (hu:Upto c) (hc:Has w (rConf c)):Calls Tryz.prog 8 #[.agg c.cells.toArray] w (Ret (.bool b) w):=by
 subst hb
 have:=small_calls hc hu.sized
 exact this
theorem kn_may {c:ConfV} {b:Bool} {w:World} (hb:mayB c.p=b) (hu:Upto c) (hc:Has w (rConf c)):Calls Tryz.prog 25 #[.agg c.cells.toArray] w (Ret (.bool b) w):=by
 subst hb
 exact ref_may hc hu.sized
end Go.Proofs.YtngeeilkpnihmaaGreatDoor
namespace Go.Proofs.YtngeeilkpnihmaaGreatDoor
open Go Go.Sk Go.RowKit
set_option maxRecDepth 100000
abbrev elSv:El (Sv Int):=⟨fun s=>[s.val],1,fun _=>rfl,fun _ v hv=>by simp at hv;subst hv;rfl⟩
theorem rowTy:SliceTy Tryz.prog 122 53 elSv.sz 24 [.slice none 0 0]:=
 SliceTy.mk' (z:=.slice none 0 0) (by kernel_rfl) (by kernel_rfl) rfl rfl
def nilSv:Sv Int:=⟨none,[],0⟩
def rowRes (s:Sv Int):Res:=rOw 3 elInt s.val s.l
structure StV where
 p:Nat
 b:Nat
 cap:Nat
 ad:Option Addr
 rad:Option Addr
 rcap:Nat
 rows:List (Sv Int)
 lad:Option Addr
 ln:Nat
 lcap:Nat
 loads:List Int
 A:Nat
abbrev StV.lv (s:StV):Value:=.slice s.lad s.ln s.lcap
def stCells (c:ConfP) (s:StV):List Value:=[.pointer (some ⟨s.b,0,none⟩),.int .i64 c.w,.int .i64 c.h,.int .i64 c.height,.slice s.rad s.A s.rcap,s.lv]
def rSt (c:ConfP) (s:StV):List Res:=[rMany (s.rows.map rowRes),rBlk s.p (stCells c s) 124,rOw 3 elInt s.lv s.loads,rOw 53 elSv (.slice s.rad s.A s.rcap) s.rows,
 rBlk s.b [.int .i64 c.w,.int .i64 c.h,.slice s.ad s.A s.cap] 148,rOw 3 elInt (.slice s.ad s.A s.cap) (gridL s.A c.w (kind2 c (homes c)))]
def binsIn (l:List StackP) (x:Cell):List Int:=((l.find? fun s=>decide (s.at_=x)).map (·.bins)).getD []
theorem binsIn_snoc {l:List StackP} {u:StackP} (h:u.at_ ∉ l.map (·.at_)) (x:Cell):binsIn (l++[u]) x=if x=u.at_ then u.bins else binsIn l x:=by
 unfold binsIn
 rw [List.find?_append]
 by_cases e:x=u.at_
 · subst e
   have:l.find? (fun s=>decide (s.at_=u.at_))=none:=by
    rw [List.find?_eq_none]
    intro s hs hc
    exact h (List.mem_map.2 ⟨s,hs,of_decide_eq_true hc⟩)
   rw [this,if_pos rfl]
   simp
 · rw [if_neg e]
   have:[u].find? (fun s=>decide (s.at_=x))=none:=by
    rw [List.find?_eq_none]
    intro s hs hc
    rw [List.mem_singleton] at hs
    subst hs
    exact e (of_decide_eq_true hc).symm
   rw [this]
   simp
def SNewPost (c:ConfP) (w:World) (e:Ending) (w':World):Prop:=
 (¬ MayP c/\e=.returned (.tuple #[.pointer none,.int .i64 5])/\Mod none' w w')\/
 (MayP c/\ ∃ s:StV,e=.returned (.tuple #[.pointer (some ⟨s.p,0,none⟩),.int .i64 0])/\s.A=(c.w*c.h).toNat/\s.rows.map (·.l)=gridL s.A c.w (binsIn c.stacks)/\s.loads=List.replicate c.robots.length 0/\Turns (rSt c s) w w' none')
set_option maxHeartbeats 4000000 in
theorem snew_calls {c:ConfV} {w:World} (hc:Has w (rConf c)) (hst:Has w stepsR) (hz:Sized c) (hwf: ∀ p∈c.robots.l,PoseWf p):Calls Tryz.prog 33 #[.agg c.cells.toArray] w (SNewPost c.p w):=by
 have hK:=((Know.start (L:=[rConf c,stepsR]) w (by intro r hr;simp only [List.mem_cons,List.not_mem_nil,or_false] at hr;rcases hr with rfl|rfl;exact hc;exact hst)).conf (c:=c) (by simp)).subL (L':=[rRd elStack c.stacks.val c.stacks.l,rStacks c.stacks,rConf c,stepsR]) (by simp)
 have km:=Lib.hid (fun (W:World) (h1:Has W (rConf c)) (h2:Has W stepsR)=>gnew_calls h1 h2 hz hwf)
 have hb3:=hz.robots
 go_enter Tryz.func33,Tryz.ntmps33
 go_wp2_with (first
  |((with_reducible refine wb 1 ?_)
    (refine wl_boxK hK rfl rfl rfl rfl ?_;clear hK;intro w1 b1 hK))
  |(go_at_call 32
    refine (km.out _ (hK.has (by simp)) (hK.has (by simp))).mono ?_
    rintro e w' (⟨hn,rfl,m⟩|⟨hm,b,cap,ad,rfl,hT⟩)
    all_goals first
     |(replace hK:=hK.same m;have HN:=Lib.hid hn;clear hn m)
     |(replace hK:=hK.push hT;simp only [rGrid,List.cons_append,List.nil_append] at hK;have HM:=Lib.hid hm;clear hm hT))
  |go_big_skip
  |((with_reducible refine wl ?_);refine ld ?_)
  |(with_reducible refine en ?_))
 · go_ret2
   exact .inl ⟨HN.out,rfl,hK.mod⟩
 · have hn:=nums_iff.1 HM.out.nums
   obtain ⟨hw1,hw2⟩:=hn.w
   obtain ⟨hh1,hh2⟩:=hn.h
   have ew:c.p.w=c.w:=rfl
   have eh:c.p.h=c.h:=rfl
   rw [ew] at hw1 hw2
   rw [eh] at hh1 hh2
   have hA1:1*1<=c.w*c.h:=Int.mul_le_mul hw1 hh1 (by omega) (by omega)
   have hA2:c.w*c.h<=16*16:=Int.mul_le_mul hw2 hh2 (by omega) (by omega)
   obtain ⟨A,hA⟩: ∃ A:Nat,c.w*c.h=(A:Int):=⟨(c.w*c.h).toNat,by omega⟩
   rw [hA] at hA1 hA2
   have hB:=hK.blk (b:=b1) (cs:=c.cells) (T:=26)
   obtain ⟨R,hR⟩: ∃ R,R=c.robots.l.length:=⟨_,rfl⟩
   have hR8:R<=8:=by rw [hR];exact HM.out.robots8
   have hwA:IntKind.i64.wrap (A:Int)=(A:Int):=by rw [IntKind.wrap_i64];omega
   have hm1: ∀ W:World,(Instr.makeSlice 122 (.int .i64 (IntKind.i64.wrap (A:Int))) (.int .i64 (IntKind.i64.wrap (A:Int)))).run Tryz.prog W=.ok (.slice (some ⟨W.heap.size,0,none⟩) A A) (W.alloc (.cells (flat elSv.cells (List.replicate A nilSv)).toArray 53)):=by
    rw [hwA];exact run_mk nilSv rowTy rfl (by omega) (by unfold maxLen;omega)
   have hm2: ∀ W:World,(Instr.makeSlice 53 (.int .i64 (c.robots.l.length:Int)) (.int .i64 (c.robots.l.length:Int))).run Tryz.prog W=.ok (.slice (some ⟨W.heap.size,0,none⟩) c.robots.l.length c.robots.l.length) (W.alloc (.cells (flat elInt.cells (List.replicate c.robots.l.length 0)).toArray 3)):=
    run_mk 0 intTy rfl (by omega) (by unfold maxLen;omega)
   clear hwA
   go_region_held3 (fun W:World=>W.cell? ⟨b1,0,none⟩=some (.int .i64 c.w)/\W.cell? ⟨b1,1,none⟩=some (.int .i64 c.h)/\W.cell? ⟨b1,2,none⟩=some (.int .i64 c.height)/\W.cell? ⟨b1,5,none⟩=some c.robots.val) (first|exact ⟨hB.cell 0,hB.cell 1,hB.cell 2,hB.cell 5⟩|exact ⟨cell_alloc (hB.cell 0),cell_alloc (hB.cell 1),cell_alloc (hB.cell 2),cell_alloc (hB.cell 5)⟩|exact ⟨cell_alloc (cell_alloc (hB.cell 0)),cell_alloc (cell_alloc (hB.cell 1)),cell_alloc (cell_alloc (hB.cell 2)),cell_alloc (cell_alloc (hB.cell 5))⟩|exact ⟨cell_alloc (cell_alloc (cell_alloc (hB.cell 0))),cell_alloc (cell_alloc (cell_alloc (hB.cell 1))),cell_alloc (cell_alloc (cell_alloc (hB.cell 2))),cell_alloc (cell_alloc (cell_alloc (hB.cell 5)))⟩) (first|fail)
   all_goals
    clear hB hR
    generalize hWW:World.drew _=W
    first
     |(have hK2:Know w W none' [rBlk (w'.heap.size+1+1) [.pointer (some ⟨b,0,none⟩),.int .i64 c.w,.int .i64 c.h,.int .i64 c.height,.slice (some ⟨w'.heap.size,0,none⟩) A A,.slice (some ⟨w'.heap.size+1,0,none⟩) c.robots.l.length c.robots.l.length] 124,rOw 3 elInt (.slice (some ⟨w'.heap.size+1,0,none⟩) c.robots.l.length c.robots.l.length) (List.replicate c.robots.l.length 0),rOw 53 elSv (.slice (some ⟨w'.heap.size,0,none⟩) A A) (List.replicate A nilSv),rBlk b [.int .i64 c.w,.int .i64 c.h,.slice ad (c.p.w*c.p.h).toNat cap] 148,rOw 3 elInt (.slice ad (c.p.w*c.p.h).toNat cap) (gridL (c.p.w*c.p.h).toNat c.w (kind2 c.p (homes c.p))),rBlk b1 c.cells 26] [rRd elStack c.stacks.val c.stacks.l,rStacks c.stacks,rConf c,stepsR]:=by
        rw [<-hWW]
        exact (((hK.push1 (made_turn' elSv 53 A nilSv (by unfold maxLen;omega) w' w'.heap.size rfl)).push1 (made_turn' elInt 3 c.robots.l.length 0 (by unfold maxLen;omega) _ (w'.heap.size+1) (by simp))).push1 (box_turn' [.pointer (some ⟨b,0,none⟩),.int .i64 c.w,.int .i64 c.h,.int .i64 c.height,.slice (some ⟨w'.heap.size,0,none⟩) A A,.slice (some ⟨w'.heap.size+1,0,none⟩) c.robots.l.length c.robots.l.length] 124 _ (w'.heap.size+1+1) (by simp))).same (Mod.drew _)
       clear hWW hK
       generalize w'.heap.size+1+1=p at hK2 ⊢
       generalize w'.heap.size+1=lb at hK2 ⊢
       generalize w'.heap.size=rb at hK2 ⊢)
     |(have hK2:Know w W none' [rBlk (w'.heap.size+1+1) [.pointer (some ⟨b,0,none⟩),.int .i64 c.w,.int .i64 c.h,.int .i64 c.height,.slice (some ⟨w'.heap.size+1,0,none⟩) A A,.slice (some ⟨w'.heap.size,0,none⟩) c.robots.l.length c.robots.l.length] 124,rOw 53 elSv (.slice (some ⟨w'.heap.size+1,0,none⟩) A A) (List.replicate A nilSv),rOw 3 elInt (.slice (some ⟨w'.heap.size,0,none⟩) c.robots.l.length c.robots.l.length) (List.replicate c.robots.l.length 0),rBlk b [.int .i64 c.w,.int .i64 c.h,.slice ad (c.p.w*c.p.h).toNat cap] 148,rOw 3 elInt (.slice ad (c.p.w*c.p.h).toNat cap) (gridL (c.p.w*c.p.h).toNat c.w (kind2 c.p (homes c.p))),rBlk b1 c.cells 26] [rRd elStack c.stacks.val c.stacks.l,rStacks c.stacks,rConf c,stepsR]:=by
        rw [<-hWW]
        exact (((hK.push1 (made_turn' elInt 3 c.robots.l.length 0 (by unfold maxLen;omega) w' w'.heap.size rfl)).push1 (made_turn' elSv 53 A nilSv (by unfold maxLen;omega) _ (w'.heap.size+1) (by simp))).push1 (box_turn' [.pointer (some ⟨b,0,none⟩),.int .i64 c.w,.int .i64 c.h,.int .i64 c.height,.slice (some ⟨w'.heap.size+1,0,none⟩) A A,.slice (some ⟨w'.heap.size,0,none⟩) c.robots.l.length c.robots.l.length] 124 _ (w'.heap.size+1+1) (by simp))).same (Mod.drew _)
       clear hWW hK
       replace hK2:=(hK2.pull (.tail (.tail .head))).pull (.tail .head)
       generalize w'.heap.size+1+1=p at hK2 ⊢
       generalize w'.heap.size+1=rb at hK2 ⊢
       generalize w'.heap.size=lb at hK2 ⊢)
    have hAA:(c.p.w*c.p.h).toNat=A:=by have:c.p.w*c.p.h=c.w*c.h:=rfl;omega
    rw [hAA] at hK2
    have hK:=hK2.pushMany (n:=A) (r:=rowRes nilSv) ⟨_,rOw_p.2 ⟨Ow.nil _ _ _,rfl⟩,fun b hb=>by cases hb⟩
    clear hK2
    rw [show List.replicate A (rowRes nilSv)=(List.replicate A nilSv).map rowRes by simp] at hK
    have HA:=Lib.hid hA
    have HAA:=Lib.hid hAA
    have hb4:=hz.stacks
    have hl:LaidP c.p:=(pre_iff.1 (may_iff.1 HM.out).1).2.1
    have hbp:=(may_iff.1 HM.out).2
    have hnum:=Lib.hid (fun (W:World) (x:Cell) (m:Nat) (hi:inB c.p x=true) (hm:x.y*c.w+x.x=m) (h1:Blk W b [.int .i64 c.w,.int .i64 c.h,.slice ad A cap] 148) (h2:Rd W elInt (.slice ad A cap) (gridL A c.w (kind2 c.p (homes c.p))))=>
     show Calls Tryz.prog 62 #[.pointer (some ⟨b,0,none⟩),.agg x.cells.toArray] W (Ret (.int .i64 (m:Int)) W) by
      have:=gr_number (g:=mkG c.p b A cap ad (kind2 c.p (homes c.p))) (x:=x) ⟨h1,h2⟩ (mkG_ok hl HA.out (kind2_bd hl.ports8 _))
      rw [mkG_num hi,show x.y*c.p.w+x.x=m from hm] at this
      exact this)
    clear hm1 hm2 hA hAA
    go_wp2_with (first
     |go_big_skip
     |((with_reducible refine wl ?_);refine ld ?_)
     |(with_reducible refine en ?_))
    go_loopw [39] (fun i wr=> ∃ (j:Nat) (rows:List (Sv Int)),i=.int .i64 j/\j<=c.stacks.l.length/\Hid (rows.map (·.l)=gridL A c.w (binsIn (c.p.stacks.take j)))/\Know w wr none' [rMany (rows.map rowRes),rBlk p [.pointer (some ⟨b,0,none⟩),.int .i64 c.w,.int .i64 c.h,.int .i64 c.height,.slice (some ⟨rb,0,none⟩) A A,.slice (some ⟨lb,0,none⟩) c.robots.l.length c.robots.l.length] 124,rOw 3 elInt (.slice (some ⟨lb,0,none⟩) c.robots.l.length c.robots.l.length) (List.replicate c.robots.l.length 0),rOw 53 elSv (.slice (some ⟨rb,0,none⟩) A A) rows,rBlk b [.int .i64 c.w,.int .i64 c.h,.slice ad A cap] 148,rOw 3 elInt (.slice ad A cap) (gridL A c.w (kind2 c.p (homes c.p))),rBlk b1 c.cells 26] [rRd elStack c.stacks.val c.stacks.l,rStacks c.stacks,rConf c,stepsR]) (fun i _=>c.stacks.l.length - (intOf i).toNat)
    case atStart=>exact ⟨0,List.replicate A nilSv,rfl,Nat.zero_le _,(by show _=_;rw [List.map_replicate,List.take_zero];exact gridL_const (w:=c.w) (nilSv.l)),hK⟩
    case round=>
     obtain ⟨j,rows,rfl,hj,hrw,hK⟩:=hrel
     by_cases hlt:j<c.stacks.l.length
     · obtain ⟨u,hu⟩: ∃ u,c.stacks.l[j]?=some u:=⟨_,List.getElem?_eq_getElem hlt⟩
       have hup:c.p.stacks[j]?=some u.p:=by show (c.stacks.l.map StackV.p)[j]?=_;rw [List.getElem?_map,hu];rfl
       have hst2:=hbp.stacked _ (List.mem_of_getElem? hup)
       have hi:inB c.p u.at_=true:=(stackedB_iff.1 hst2.1).1
       have hbl:u.bins.l.length<=1048576:=by have h1:=hst2.2;have h2:=hn.height;have h3:(u.p.bins.length:Int)=u.bins.l.length:=rfl;omega
       have HU:=Lib.hid hu
       have HMu:=Lib.hid (List.mem_of_getElem? hu)
       have htk:=Lib.hid (show c.p.stacks.take (j+1)=c.p.stacks.take j++[u.p] by rw [List.take_add_one,hup];rfl)
       have hnew:Hid (u.p.at_ ∉ (c.p.stacks.take j).map (·.at_)):=by
        have h1:=hbp.stacks1.sublist ((List.take_sublist (j+1) c.p.stacks).map (·.at_))
        rw [htk.out,List.map_append,List.nodup_append] at h1
        exact fun h=>h1.2.2 _ h u.p.at_ (by simp) rfl
       have h1:=numOf_bd hi
       obtain ⟨m,hm⟩: ∃ m:Nat,u.at_.y*c.w+u.at_.x=(m:Int):=⟨(u.at_.y*c.w+u.at_.x).toNat,by have:numOf c.p u.at_=u.at_.y*c.w+u.at_.x:=rfl;omega⟩
       have hmA:=num_lt HA.out hi hm
       have kN:=Lib.hid (fun (W:World) h1 h2=>hnum.out W u.at_ m hi hm h1 h2)
       have hrl:Hid (rows.length=A):=by show _=_;have:=congrArg List.length hrw.out;rw [List.length_map,gridL_len] at this;exact this
       obtain ⟨old,hold⟩: ∃ old,rows[m]?=some old:=⟨_,List.getElem?_eq_getElem (by rw [hrl.out];exact hmA)⟩
       have HO:=Lib.hid hold
       have E1:=Lib.hid (show ∀ sv:Sv Int,sv.l=u.bins.l->(rows.set m sv).map (·.l)=gridL A c.w (binsIn (c.p.stacks.take (j+1))) from fun sv hsv=>by
        rw [List.map_set,hrw.out,hsv,gridL_set hw1 HA.out hi hm,htk.out]
        congr 1
        funext y
        rw [binsIn_snoc hnew.out]
        rfl)
       have hm256:m<=256:=by omega
       clear hu hup hst2 hi h1 hm hold
       go_wp2_with (first
        |((with_reducible refine wt 41 ?_)
          (refine wl_ixK hK rfl rfl rfl rfl stackTy.und stackTy.size (h:=?_);intro b41 k41 hat41))
        |((with_reducible refine wl_at (o:=⟨some 8,.alloc _,_,_,_,_⟩) ?_)
          (refine wl_allocK (z:=.agg (stackZ).toArray) (zs:=stackZ) hK rfl rfl (by kernel_rfl) rfl ?_;clear hK;intro w8 b8 hK))
        |((with_reducible refine wl_at (o:=⟨none,.store 85 _ _,_,_,_,_⟩) ?_)
          (refine wl_storeWK (vs:=StackV.cells u) hK rfl rfl rfl rfl (aggS (by decide)) (elStack.one u) (h:=?_);clear hK;intro w' hK;simp only [z0,z1] at hK))
        |((with_reducible refine wt 49 ?_)
          (refine wl_loadS rfl rfl rfl (aggT (by decide)) rfl (hK.blk.at (ds:=Cell.cells u.at_) (o:=0) (fun j v h=>by rw [Nat.zero_add];rcases j with _|_|j<;>first|exact h|(simp [Cell.cells] at h))) ?_))
        |(go_at_call 62;(refine (hK.quiet (kN.out _ hK.blk hK.rd)).mono ?_;clear hK;rintro e w' ⟨rfl,hK⟩))
        |(go_at_call 61;(refine (listInt_calls (s:=u.bins) (Has.bins (hK.has (by simp)) u HMu.out) hbl).mono ?_;rintro e w' ⟨adl,capl,rfl,hT⟩;replace hK:=hK.push1 hT;clear hT))
        |((with_reducible refine wt 54 ?_);(refine wl_ixO hK rfl rfl rfl rfl rowTy.und rowTy.size (hu:=HO) (h:=?_);intro b54 k54 hat54 hsp54))
        |((with_reducible refine wl_at (o:=⟨none,.store 53 _ _,_,_,_,_⟩) ?_);(refine wl_storeE (⟨adl,u.bins.l,capl⟩:Sv Int) hK rfl rfl rfl rfl (sizT (by decide)) hsp54 (hlt:=by rw [hrl.out];exact hmA) (h:=?_);clear hK;intro w' hK;simp only [z0,z1] at hK))
        |((with_reducible refine wp_region_stableK (id:=8) hK [3,9] [rBlk p [.pointer (some ⟨b,0,none⟩),.int .i64 c.w,.int .i64 c.h,.int .i64 c.height,.slice (some ⟨rb,0,none⟩) A A,.slice (some ⟨lb,0,none⟩) c.robots.l.length c.robots.l.length] 124,rBlk b8 (StackV.cells u) 85] (by kernel_rfl) (by kernel_rfl) (by simp) (by kernel_rfl) ?_);clear hK;intro w' hK)
        |(with_reducible refine wpC_of ?_)
        |(with_reducible refine atEndC (hK.cls (by simp)) ?_)
        |((with_reducible refine wpC_end' ?_);refine wpC_nil ⟨by kernel_rfl,stays_loadK rfl rfl rfl rfl (scalT (by decide)) rfl (rest:=stays_loadK rfl rfl rfl rfl (scalT (by decide)) rfl (rest:=stays_nil)),?_⟩)
        |go_big_skip
        |((with_reducible refine wl ?_);refine ld ?_)
        |(with_reducible refine en ?_))
       go_roundw
       case rel=>
        have hK3:=(hK.sub (.cons_cons _ (.cons _ (List.Sublist.refl _)))).setMany m
        refine ⟨j+1,rows.set m ⟨adl,u.bins.l,capl⟩,by go_num,by omega,E1.out _ rfl,?_⟩
        rw [List.map_set]
        exact hK3
       case measure=>simp [intOf];omega
     · obtain rfl:j=c.stacks.l.length:=by omega
       go_wp2_with (first
        |go_big_skip
        |((with_reducible refine wl ?_);refine ld ?_)
        |(with_reducible refine en ?_))
       go_ret2
       refine .inr ⟨HM.out,⟨p,b,cap,ad,some ⟨rb,0,none⟩,A,rows,some ⟨lb,0,none⟩,c.robots.l.length,c.robots.l.length,List.replicate c.robots.l.length 0,A⟩,rfl,HAA.out.symm,?_,rfl,?_⟩
       · have:=hrw.out
         rw [List.take_of_length_le (by show (c.stacks.l.map StackV.p).length<=_;simp)] at this
         exact this
       · have hK3:=(hK.sub (.cons_cons _ (.cons_cons _ (.cons_cons _ (.cons_cons _ (.cons_cons _ (.cons_cons _ (.cons _ .slnil)))))))).turns
         exact hK3
end Go.Proofs.YtngeeilkpnihmaaGreatDoor
namespace Go.Proofs.YtngeeilkpnihmaaGreatDoor
open Go Go.Sk Go.RowKit
set_option maxRecDepth 100000
structure StOk (c:ConfP) (s:StV) (f:Cell->List Int):Prop where
 may:MayP c
 A:c.w*c.h=s.A
 rows:s.rows.map (·.l)=gridL s.A c.w f
 short: ∀ x,(f x).length<=1024
 robots:s.loads.length<=8
structure StAt (W:World) (c:ConfP) (s:StV):Prop where
 blk:Blk W s.p (stCells c s) 124
 gblk:Blk W s.b [.int .i64 c.w,.int .i64 c.h,.slice s.ad s.A s.cap] 148
 gks:Rd W elInt (.slice s.ad s.A s.cap) (gridL s.A c.w (kind2 c (homes c)))
 rows:Rd W elSv (.slice s.rad s.A s.rcap) s.rows
 row: ∀ r∈s.rows,Rd W elInt r.val r.l
 loads:Rd W elInt s.lv s.loads
theorem StAt.know {c:ConfP} {s:StV} {w:World} (h:StAt w c s) (L:List Res) (hL: ∀ r∈L,Has w r):Know w w none' [] ([rBlk s.p (stCells c s) 124,rBlk s.b [.int .i64 c.w,.int .i64 c.h,.slice s.ad s.A s.cap] 148,rRd elInt (.slice s.ad s.A s.cap) (gridL s.A c.w (kind2 c (homes c))),rRd elSv (.slice s.rad s.A s.rcap) s.rows,rRd elInt s.lv s.loads]++L):=Know.start w (by
 intro r hr
 rw [List.mem_append] at hr
 rcases hr with hr|hr
 · simp only [List.mem_cons,List.not_mem_nil,or_false] at hr
   rcases hr with rfl|rfl|rfl|rfl|rfl
   · exact ⟨_,rBlk_p.2 ⟨h.blk,rfl⟩⟩
   · exact ⟨_,rBlk_p.2 ⟨h.gblk,rfl⟩⟩
   · exact h.gks.has
   · exact h.rows.has
   · exact h.loads.has
 · exact hL r hr)
theorem StAt.mod {c:ConfP} {s:StV} {W W':World} (ha:StAt W c s) (m:Mod none' W W'):StAt W' c s:=⟨ha.blk.mod m fun h=>h,ha.gblk.mod m fun h=>h,ha.gks.mod m fun _ _ h=>h,ha.rows.mod m fun _ _ h=>h,fun r hr=>(ha.row r hr).mod m fun _ _ h=>h,ha.loads.mod m fun _ _ h=>h⟩
abbrev StV.ptr (s:StV):Value:=.pointer (some ⟨s.p,0,none⟩)
def atS (c:ConfP) (x:Cell):Int:=if openB c x then x.y*c.w+x.x else -1
theorem at_ways {c:ConfP} {s:StV} {f:Cell->List Int} (h:StOk c s f) (x:Cell):(atS c x= -1/\openB c x=false)\/ ∃ (m:Nat) (row:Sv Int),atS c x=(m:Int)/\m<=256/\openB c x=true/\s.rows[m]?=some row/\row.l=f x/\row.l.length<=1024/\m<s.rows.length/\x.y*c.w+x.x=m:=by
 by_cases ho:openB c x=true
 · right
   have hi:=(openB_iff.1 ho).1
   have h1:=numOf_bd hi
   have ha:=(nums_iff.1 h.may.nums).area
   have hA:=h.A
   have he:numOf c x=x.y*c.w+x.x:=rfl
   obtain ⟨m,hm⟩: ∃ m:Nat,x.y*c.w+x.x=(m:Int):=⟨(x.y*c.w+x.x).toNat,by omega⟩
   have h2:=gridL_get (f:=f) h.A hi hm
   rw [<-h.rows,List.getElem?_map] at h2
   obtain ⟨row,h3,h4⟩:=Option.map_eq_some_iff.1 h2
   exact ⟨m,row,by unfold atS;rw [if_pos ho];exact hm,by omega,ho,h3,h4,by rw [h4];exact h.short x,(List.getElem?_eq_some_iff.1 h3).1,hm⟩
 · left
   refine ⟨?_,by simpa using ho⟩
   unfold atS
   rw [if_neg ho]
set_option maxHeartbeats 1000000 in
theorem s_at {c:ConfP} {s:StV} {f:Cell->List Int} {x:Cell} {w:World} (ha:StAt w c s) (h:StOk c s f):Calls Tryz.prog 92 #[s.ptr,.agg x.cells.toArray] w (Ret (.int .i64 (atS c x)) w):=by
 have hK:=ha.know [] (by simp)
 simp only [List.append_nil] at hK
 have hok:=mkG_ok (b:=s.b) (A:=s.A) (cap:=s.cap) (ad:=s.ad) (may_laid h.may) h.A (kind2_bd h.may.ports8 (homes c))
 have kO:=Lib.hid (fun (W:World) (h1:Blk W s.b [.int .i64 c.w,.int .i64 c.h,.slice s.ad s.A s.cap] 148) (h2:Rd W elInt (.slice s.ad s.A s.cap) (gridL s.A c.w (kind2 c (homes c))))=>
  show Calls Tryz.prog 123 #[.pointer (some ⟨s.b,0,none⟩),.agg x.cells.toArray] W (Ret (.bool (openB c x)) W) by
   have:=gr_open (g:=mkG c s.b s.A s.cap s.ad (kind2 c (homes c))) (x:=x) ⟨h1,h2⟩ hok
   rw [mkG_open h.A fun y=>kind2_open (homes_free h.may)] at this
   exact this)
 rcases at_ways h x with ⟨h1,h2⟩|⟨m,row,h1,hm,h2,_,_,_,_,hxm⟩
 · rw [h1]
   rw [h2] at kO
   clear h1 h2
   go_enter Tryz.func92,Tryz.ntmps92
   go_wp2_with (first
    |((with_reducible refine wb 3 ?_)
      (refine wl_boxK hK rfl rfl rfl rfl ?_;clear hK;intro w3 b3 hK))
    |(go_at_call 123;(refine (hK.quiet (kO.out _ hK.blk hK.rd)).mono ?_;clear hK;rintro e w' ⟨rfl,hK⟩))
    |((with_reducible refine tx 1 hK ?_);clear hK;intro w' hK)
    |((with_reducible refine tx 3 hK ?_);clear hK;intro w' hK)
    |go_big_skip
    |((with_reducible refine wl ?_);refine ld ?_)
    |(with_reducible refine en ?_))
   go_ret
   exact ⟨rfl,hK.mod⟩
 · rw [h1]
   rw [h2] at kO
   have kN:=Lib.hid (fun (W:World) (h1:Blk W s.b [.int .i64 c.w,.int .i64 c.h,.slice s.ad s.A s.cap] 148) (h2':Rd W elInt (.slice s.ad s.A s.cap) (gridL s.A c.w (kind2 c (homes c))))=>
    show Calls Tryz.prog 62 #[.pointer (some ⟨s.b,0,none⟩),.agg x.cells.toArray] W (Ret (.int .i64 (m:Int)) W) by
     have:=gr_number (g:=mkG c s.b s.A s.cap s.ad (kind2 c (homes c))) (x:=x) ⟨h1,h2'⟩ hok
     rw [mkG_num (openB_iff.1 h2).1,show x.y*c.w+x.x=m from hxm] at this
     exact this)
   clear h1 h2 hxm
   go_enter Tryz.func92,Tryz.ntmps92
   go_wp2_with (first
    |((with_reducible refine wb 3 ?_)
      (refine wl_boxK hK rfl rfl rfl rfl ?_;clear hK;intro w3 b3 hK))
    |(go_at_call 123;(refine (hK.quiet (kO.out _ hK.blk hK.rd)).mono ?_;clear hK;rintro e w' ⟨rfl,hK⟩))
    |(go_at_call 62;(refine (hK.quiet (kN.out _ hK.blk hK.rd)).mono ?_;clear hK;rintro e w' ⟨rfl,hK⟩))
    |((with_reducible refine tx 1 hK ?_);clear hK;intro w' hK)
    |((with_reducible refine tx 3 hK ?_);clear hK;intro w' hK)
    |go_big_skip
    |((with_reducible refine wl ?_);refine ld ?_)
    |(with_reducible refine en ?_))
   go_ret
   exact ⟨rfl,hK.mod⟩
end Go.Proofs.YtngeeilkpnihmaaGreatDoor
namespace Go.Proofs.YtngeeilkpnihmaaGreatDoor
open Go Go.Sk Go.RowKit
set_option maxRecDepth 100000
set_option maxHeartbeats 1000000 in
theorem s_top {c:ConfP} {s:StV} {f:Cell->List Int} {x:Cell} {w:World} (ha:StAt w c s) (h:StOk c s f):Calls Tryz.prog 93 #[s.ptr,.agg x.cells.toArray] w (Ret (.int .i64 (if openB c x then (f x).getLastD 0 else 0)) w):=by
 have kA:=Lib.hid (fun (W:World) (h1:StAt W c s)=>s_at (x:=x) h1 h)
 rcases at_ways h x with ⟨h1,h2⟩|⟨m,row,h1,hm,h2,h3,h4,h5,h6,_⟩
 · have hK:=ha.know [] (by simp)
   simp only [List.append_nil] at hK
   rw [h1] at kA
   rw [h2,if_neg (by simp)]
   have HA:=Lib.hid (fun (W:World) (m:Mod none' w W)=>ha.mod m)
   clear h1 h2 ha
   go_enter Tryz.func93,Tryz.ntmps93
   go_wp2_with (first
    |((with_reducible refine wb 3 ?_)
      (refine wl_boxK hK rfl rfl rfl rfl ?_;clear hK;intro w3 b3 hK))
    |(go_at_call 92;(refine (hK.quiet (kA.out _ (HA.out _ hK.mod))).mono ?_;clear hK;rintro e w' ⟨rfl,hK⟩))
    |go_big_skip
    |((with_reducible refine wl ?_);refine ld ?_)
    |(with_reducible refine en ?_))
   go_ret
   exact ⟨rfl,hK.mod⟩
 · have hK:=ha.know [rRd elInt row.val row.l] (by intro r hr;rw [List.mem_singleton] at hr;subst hr;exact (ha.row row (List.mem_of_getElem? h3)).has)
   simp only [List.cons_append,List.nil_append] at hK
   rw [h1] at kA
   rw [if_pos h2,<-h4]
   have HA:=Lib.hid (fun (W:World) (m:Mod none' w W)=>ha.mod m)
   have HR:=Lib.hid h3
   clear h1 h2 h3 h4 ha
   by_cases h0:row.l=[]
   · obtain ⟨ra,rl,rc⟩:=row
     simp only at h0
     subst h0
     go_enter Tryz.func93,Tryz.ntmps93
     go_wp2_with (first
      |((with_reducible refine wb 3 ?_)
        (refine wl_boxK hK rfl rfl rfl rfl ?_;clear hK;intro w3 b3 hK))
      |(go_at_call 92;(refine (hK.quiet (kA.out _ (HA.out _ hK.mod))).mono ?_;clear hK;rintro e w' ⟨rfl,hK⟩))
      |go_big_skip
      |((with_reducible refine wt 17 ?_)
        (refine wl_ixK hK rfl rfl rfl rfl rowTy.und rowTy.size (h:=?_);intro b17 k17 hat17))
      |go_big_skip
      |((with_reducible refine wl ?_);refine ld ?_)
      |(with_reducible refine en ?_))
     go_ret
     exact ⟨rfl,hK.mod⟩
   · obtain ⟨k,hk⟩: ∃ k,row.l.length=k+1:=⟨row.l.length - 1,by have:=List.length_pos_iff.2 h0;omega⟩
     have hv:row.l[k]?=some (row.l.getLastD 0):=by
      rw [List.getLastD_eq_getLast?,List.getLast?_eq_getElem?,hk,Nat.add_sub_cancel,List.getElem?_eq_getElem (by omega)]
      rfl
     have HV:=Lib.hid hv
     obtain ⟨v,hvv⟩: ∃ v,v=row.l.getLastD 0:=⟨_,rfl⟩
     rw [<-hvv] at HV ⊢
     have e1:(((row.l.length:Nat):Int) == 0)=false:=beq_eq_false_iff_ne.2 (by omega)
     have e2:((row.l.length:Nat):Int) - 1=(k:Int):=by omega
     have hpos:0<row.l.length:=by omega
     clear h0 hv hvv hk
     go_enter Tryz.func93,Tryz.ntmps93
     go_wp2_with (first
      |((with_reducible refine wb 3 ?_)
        (refine wl_boxK hK rfl rfl rfl rfl ?_;clear hK;intro w3 b3 hK))
      |(go_at_call 92;(refine (hK.quiet (kA.out _ (HA.out _ hK.mod))).mono ?_;clear hK;rintro e w' ⟨rfl,hK⟩))
      |go_big_skip
      |((with_reducible refine wt 38 ?_);(refine wl_ixK (u:=v) hK rfl rfl rfl rfl intTy.und intTy.size (hu:=HV) (h:=?_);intro b38 k38 hat38))
      |((with_reducible refine wt 17 ?_)
        (refine wl_ixK hK rfl rfl rfl rfl rowTy.und rowTy.size (h:=?_);intro b17 k17 hat17))
      |((with_reducible refine wt 27 ?_)
        (refine wl_ixK hK rfl rfl rfl rfl rowTy.und rowTy.size (h:=?_);intro b27 k27 hat27))
      |((with_reducible refine wt 34 ?_)
        (refine wl_ixK hK rfl rfl rfl rfl rowTy.und rowTy.size (h:=?_);intro b34 k34 hat34))
      |((with_reducible refine tx 4 hK ?_);clear hK;intro w' hK)
      |go_big_skip
      |((with_reducible refine wl ?_);refine ld ?_)
      |(with_reducible refine en ?_))
     go_ret
     exact ⟨rfl,hK.mod⟩
set_option maxHeartbeats 1000000 in
theorem s_load {c:ConfP} {s:StV} {i:Int} {w:World} (ha:StAt w c s):Calls Tryz.prog 69 #[s.ptr,.int .i64 i] w (Ret (.int .i64 (if 0<=i/\i<s.loads.length then s.loads.getD i.toNat 0 else 0)) w):=by
 have hK:=ha.know [] (by simp)
 simp only [List.append_nil] at hK
 have hln:s.ln=s.loads.length:=ha.loads.n
 by_cases h0:i<0
 · rw [if_neg (by omega)]
   clear hln
   go_enter Tryz.func69,Tryz.ntmps69
   go_wp2_with (first
    |go_big_skip
    |((with_reducible refine wl ?_);refine ld ?_)
    |(with_reducible refine en ?_))
   go_ret
   exact ⟨rfl,hK.mod⟩
 · obtain ⟨k,rfl⟩: ∃ k:Nat,i=(k:Int):=⟨i.toNat,by omega⟩
   by_cases h1:k<s.ln
   · have hu:s.loads[k]?=some (s.loads.getD k 0):=by rw [List.getD_eq_getElem?_getD,List.getElem?_eq_getElem (by omega)];rfl
     rw [if_pos (by omega),Int.toNat_natCast]
     generalize s.loads.getD k 0=v at hu ⊢
     have HU:=Lib.hid hu
     have e1:decide (s.ln<=k)=false:=decide_eq_false (by omega)
     have e2:decide ((s.ln:Int)<=(k:Int))=false:=decide_eq_false (by omega)
     clear hu hln
     go_enter Tryz.func69,Tryz.ntmps69
     go_wp2_with (first
      |((with_reducible refine wt 25 ?_)
        (refine wl_ixK hK rfl rfl rfl rfl intTy.und intTy.size (h:=?_);intro b25 k25 hat25))
      |go_big_skip
      |((with_reducible refine wl ?_);refine ld ?_)
      |(with_reducible refine en ?_))
     go_ret
     exact ⟨rfl,hK.mod⟩
   · rw [if_neg (by omega)]
     have e1:decide (s.ln<=k)=true:=decide_eq_true (by omega)
     have e2:decide ((s.ln:Int)<=(k:Int))=true:=decide_eq_true (by omega)
     clear hln
     go_enter Tryz.func69,Tryz.ntmps69
     go_wp2_with (first
      |go_big_skip
      |((with_reducible refine wl ?_);refine ld ?_)
      |(with_reducible refine en ?_))
     go_ret
     exact ⟨rfl,hK.mod⟩
end Go.Proofs.YtngeeilkpnihmaaGreatDoor
namespace Go.Proofs.YtngeeilkpnihmaaGreatDoor
open Go Go.Sk Go.RowKit
set_option maxRecDepth 100000
theorem StAt.has {W:World} {c:ConfP} {s:StV} (g: ∀ r∈rSt c s,Has W r):StAt W c s:=by
 have h1:=g (rMany (s.rows.map rowRes)) (by simp [rSt])
 exact ⟨(g _ (show rBlk s.p (stCells c s) _∈_ by simp [rSt])).blk,(g (rBlk s.b _ _) (by simp [rSt])).blk,(g (rOw 3 elInt (.slice s.ad s.A s.cap) _) (by simp [rSt])).ord,(g (rOw 53 elSv _ s.rows) (by simp [rSt])).ord,
  fun r hr=>(rMany_has h1 (rowRes r) (List.mem_map_of_mem hr):Has W (rOw 3 elInt r.val r.l)).ord,(g (rOw 3 elInt s.lv s.loads) (by simp [rSt])).ord⟩
theorem row_has {W:World} {c:ConfP} {s:StV} (g: ∀ r∈rSt c s,Has W r) {r:Sv Int} (hr:r∈s.rows):Ow W 3 elInt r.val r.l:=by
 have h1:=g (rMany (s.rows.map rowRes)) (by simp [rSt])
 exact (rMany_has h1 (rowRes r) (List.mem_map_of_mem hr):Has W (rOw 3 elInt r.val r.l)).ow
def liftE (c:ConfP) (f:Cell->List Int) (loads:List Int) (i:Int) (x:Cell):Int:=
 if openB c x=true/\0<=i/\i<loads.length then (if loads.getD i.toNat 0≠0 then 8 else if f x=[] then 3 else 0) else 1
def putF (f:Cell->List Int) (x:Cell) (l:List Int):Cell->List Int:=fun y=>if y=x then l else f y
def LiftPost (c:ConfP) (s:StV) (f:Cell->List Int) (i:Int) (x:Cell) (S:Nat->Prop) (w:World) (e:Ending) (w':World):Prop:=
 (liftE c f s.loads i x≠0/\e=.returned (.tuple #[.int .i64 0,.int .i64 (liftE c f s.loads i x)])/\Turns (rSt c s) w w' S)\/
 (liftE c f s.loads i x=0/\ ∃ s',e=.returned (.tuple #[.int .i64 ((f x).getLastD 0),.int .i64 0])/\StOk c s' (putF f x (f x).dropLast)/\s'.p=s.p/\s'.loads=s.loads.set i.toNat ((f x).getLastD 0)/\Turns (rSt c s') w w' S)
set_option maxHeartbeats 4000000 in
theorem s_lift {c:ConfP} {s:StV} {f:Cell->List Int} {i:Int} {x:Cell} {w:World} {S:Nat->Prop} (hK:Know w w S (rSt c s) []) (h:StOk c s f):Calls Tryz.prog 67 #[s.ptr,.int .i64 i,.agg x.cells.toArray] w (LiftPost c s f i x S w):=by
 have kA:=Lib.hid (fun (W:World) (h1: ∀ r∈rSt c s,Has W r)=>s_at (x:=x) (StAt.has h1) h)
 have kT:=Lib.hid (fun (W:World) (h1: ∀ r∈rSt c s,Has W r)=>s_top (x:=x) (StAt.has h1) h)
 have hg: ∀ r∈rSt c s,Has w r:=fun r hr=>hK.get (by simp [hr])
 have hln:s.ln=s.loads.length:=(StAt.has hg).loads.n
 have hG:=Lib.hid hg
 rcases at_ways h x with ⟨h1,h2⟩|⟨m,row,h1,hm,h2,h3,h4,h5,h6,h7⟩
 · rw [h1] at kA
   have hE:liftE c f s.loads i x=1:=by unfold liftE;rw [if_neg (by rw [h2];simp)]
   have HE:=Lib.hid hE
   clear h1 h2 hE hg
   go_enter Tryz.func67,Tryz.ntmps67
   go_wp2_with (first
    |((with_reducible refine wb 5 ?_)
      (refine wl_boxK hK rfl rfl rfl rfl ?_;clear hK;intro w5 b5 hK))
    |(go_at_call 92;(refine (hK.quiet (kA.out _ (fun r hr=>hK.get (List.mem_append_left _ (List.mem_cons_of_mem _ hr))))).mono ?_;clear hK;rintro e w' ⟨rfl,hK⟩))
    |go_big_skip
    |go_big_skip
    |((with_reducible refine wl ?_);refine ld ?_)
    |(with_reducible refine en ?_))
   go_ret2
   exact .inl ⟨by rw [HE.out];decide,by rw [HE.out];rfl,(hK.sub (.cons _ (List.Sublist.refl _))).turns⟩
 · rw [h1] at kA
   by_cases hi0:i<0
   · have hE:liftE c f s.loads i x=1:=by unfold liftE;rw [if_neg (by omega)]
     have HE:=Lib.hid hE
     clear h1 h2 h3 h4 hE hg
     go_enter Tryz.func67,Tryz.ntmps67
     go_wp2_with (first
      |((with_reducible refine wb 5 ?_)
        (refine wl_boxK hK rfl rfl rfl rfl ?_;clear hK;intro w5 b5 hK))
      |(go_at_call 92;(refine (hK.quiet (kA.out _ (fun r hr=>hK.get (List.mem_append_left _ (List.mem_cons_of_mem _ hr))))).mono ?_;clear hK;rintro e w' ⟨rfl,hK⟩))
      |go_big_skip
      |go_big_skip
      |((with_reducible refine wl ?_);refine ld ?_)
      |(with_reducible refine en ?_))
     go_ret2
     exact .inl ⟨by rw [HE.out];decide,by rw [HE.out];rfl,(hK.sub (.cons _ (List.Sublist.refl _))).turns⟩
   · obtain ⟨k,rfl⟩: ∃ k:Nat,i=(k:Int):=⟨i.toNat,by omega⟩
     by_cases hk:k<s.ln
     · have e1:decide (s.ln<=k)=false:=decide_eq_false (by omega)
       have e2:decide ((s.ln:Int)<=(k:Int))=false:=decide_eq_false (by omega)
       have hu:s.loads[k]?=some (s.loads.getD k 0):=by rw [List.getD_eq_getElem?_getD,List.getElem?_eq_getElem (by omega)];rfl
       obtain ⟨v,hv⟩: ∃ v,v=s.loads.getD k 0:=⟨_,rfl⟩
       rw [<-hv] at hu
       have HU:=Lib.hid hu
       have HR:=Lib.hid h3
       by_cases hv0:v=0
       · subst hv0
         by_cases hr0:row.l=[]
         · have hE:liftE c f s.loads k x=3:=by
            unfold liftE
            rw [if_pos ⟨h2,by omega,by omega⟩,Int.toNat_natCast,<-hv,if_neg (by simp),if_pos (by rw [<-h4];exact hr0)]
           have HE:=Lib.hid hE
           obtain ⟨ra,rl,rc⟩:=row
           simp only at hr0
           subst hr0
           clear h1 h2 h3 h4 hE hg hu hv hln
           simp only [rSt,StV.lv] at hK
           go_enter Tryz.func67,Tryz.ntmps67
           go_wp2_with (first
            |((with_reducible refine wb 5 ?_)
              (refine wl_boxK hK rfl rfl rfl rfl ?_;clear hK;intro w5 b5 hK))
            |(go_at_call 92;(refine (hK.quiet (kA.out _ (fun r hr=>hK.get (List.mem_append_left _ (List.mem_cons_of_mem _ hr))))).mono ?_;clear hK;rintro e w' ⟨rfl,hK⟩))
            |go_big_skip
            |((with_reducible refine wt 35 ?_)
              (refine wl_ixK hK rfl rfl rfl rfl intTy.und intTy.size (h:=?_);intro b35 k35 hat35))
            |((with_reducible refine wt 44 ?_)
              (refine wl_ixK hK rfl rfl rfl rfl rowTy.und rowTy.size (h:=?_);intro b44 k44 hat44))
            |go_big_skip
            |((with_reducible refine wl ?_);refine ld ?_)
            |(with_reducible refine en ?_))
           go_ret2
           exact .inl ⟨by rw [HE.out];decide,by rw [HE.out];rfl,(hK.sub (.cons _ (List.Sublist.refl _))).turns⟩
         · have hE:liftE c f s.loads k x=0:=by
            unfold liftE
            rw [if_pos ⟨h2,by omega,by omega⟩,Int.toNat_natCast,<-hv,if_neg (by simp),if_neg (by rw [<-h4];exact hr0)]
           have hrm:row∈s.rows:=List.mem_of_getElem? h3
           obtain ⟨g,hga⟩:=(row_has hg hrm).addr hr0
           have hcap:=(row_has hg hrm).capLe
           obtain ⟨q,hq⟩: ∃ q,row.l.length=q+1:=⟨row.l.length - 1,by have:=List.length_pos_iff.2 hr0;omega⟩
           have hdl:row.l.dropLast=row.l.take q:=by rw [List.dropLast_eq_take,hq];rfl
           obtain ⟨b,hb⟩: ∃ b,b=(f x).getLastD 0:=⟨_,rfl⟩
           rw [if_pos h2,<-hb] at kT
           have hx:f x=row.l:=h4.symm
           have HF:=Lib.hid (show ∀ row':Sv Int,row'.l=row.l.take q->(s.rows.set m row').map (·.l)=gridL s.A c.w (putF f x (f x).dropLast) from fun row' hr'=>by
            have hi:=(openB_iff.1 h2).1
            rw [List.map_set,h.rows,hr',gridL_set (by have:=(nums_iff.1 h.may.nums).w;omega) h.A hi h7,hx,hdl]
            rfl)
           have HQ:=Lib.hid h
           have HE:=Lib.hid hE
           have e3:(((row.l.length:Nat):Int) == 0)=false:=beq_eq_false_iff_ne.2 (by omega)
           have e4:((row.l.length:Nat):Int) - 1=(q:Int):=by omega
           have hq2:q<=row.cap:=by omega
           have HK:=Lib.hid (show (row.l.take q).length=q by rw [List.length_take];omega)
           have hlr:row.val=.slice (some ⟨g,0,none⟩) row.l.length row.cap:=by show Value.slice _ _ _=_;rw [hga]
           have HV:=Lib.hid hlr
           have hlr2:Hid (rowRes ⟨some ⟨g,0,none⟩,row.l.take q,row.cap⟩=rOw 3 elInt (.slice (some ⟨g,0,none⟩) q row.cap) (row.l.take q)):=by show _=_;unfold rowRes Sv.val;simp only;rw [HK.out]
           have HSV:=Lib.hid (show [Value.slice (some ⟨g,0,none⟩) q row.cap]=elSv.cells (⟨some ⟨g,0,none⟩,row.l.take q,row.cap⟩:Sv Int) by show _=[Sv.val _];unfold Sv.val;simp only;rw [HK.out])
           have HB:=Lib.hid hb
           simp only [rSt,StV.lv] at hK
           clear h1 h2 h3 h4 h7 hE hg hu hv hr0 hga hdl hq hlr hx hb
           go_enter Tryz.func67,Tryz.ntmps67
           go_wp2_with (first
            |((with_reducible refine wb 5 ?_)
              (refine wl_boxK hK rfl rfl rfl rfl ?_;clear hK;intro w5 b5 hK))
            |(go_at_call 92;(refine (hK.quiet (kA.out _ (fun r hr=>hK.get (List.mem_append_left _ (List.mem_cons_of_mem _ hr))))).mono ?_;clear hK;rintro e w' ⟨rfl,hK⟩))
            |(go_at_call 93;(refine (hK.quiet (kT.out _ (fun r hr=>hK.get (List.mem_append_left _ (List.mem_cons_of_mem _ hr))))).mono ?_;clear hK;rintro e w' ⟨rfl,hK⟩))
            |go_big_skip
            |((with_reducible refine wt 72 ?_);(refine wl_slice_to rfl rfl HV.out rfl intTy.und intTy.size (by omega) (by omega) ?_))
            |((with_reducible refine wt 73 ?_);(refine wl_ixO hK rfl rfl rfl rfl rowTy.und rowTy.size (hu:=HR) (h:=?_);intro b73 k73 hat73 hsp73))
            |((with_reducible refine wt 80 ?_);(refine wl_ixO hK rfl rfl rfl rfl intTy.und intTy.size (hu:=HU) (h:=?_);intro b80 k80 hat80 hsp80))
            |((with_reducible refine wl_at (o:=⟨none,.store 53 _ _,_,_,_,_⟩) ?_);(refine wl_storeE (⟨some ⟨g,0,none⟩,row.l.take q,row.cap⟩:Sv Int) hK rfl rfl rfl rfl (sizT (by decide)) hsp73 (hlt:=h6) (hv:=.inr ⟨rfl,HSV.out⟩) (h:=?_);clear hK;intro w' hK;simp only [z0,z1] at hK))
            |((with_reducible refine wl_at (o:=⟨none,.store 3 _ _,_,_,_,_⟩) ?_);(refine wl_storeE b hK rfl rfl rfl rfl (sizT (by decide)) hsp80 (hlt:=by omega) (hv:=.inr ⟨rfl,rfl⟩) (h:=?_);clear hK;intro w' hK;simp only [z0,z1] at hK))
            |((with_reducible refine wt 35 ?_)
              (refine wl_ixK hK rfl rfl rfl rfl intTy.und intTy.size (h:=?_);intro b35 k35 hat35))
            |((with_reducible refine wt 44 ?_)
              (refine wl_ixK hK rfl rfl rfl rfl rowTy.und rowTy.size (h:=?_);intro b44 k44 hat44))
            |((with_reducible refine wt 61 ?_)
              (refine wl_ixK hK rfl rfl rfl rfl rowTy.und rowTy.size (h:=?_);intro b61 k61 hat61))
            |((with_reducible refine wt 68 ?_)
              (refine wl_ixK hK rfl rfl rfl rfl rowTy.und rowTy.size (h:=?_);intro b68 k68 hat68))
            |((with_reducible refine tx 9 hK ?_);clear hK;intro w' hK)
            |go_big_skip
            |((with_reducible refine wl ?_);refine ld ?_)
            |(with_reducible refine en ?_))
           go_ret2
           refine .inr ⟨HE.out,⟨s.p,s.b,s.cap,s.ad,s.rad,s.rcap,s.rows.set m ⟨some ⟨g,0,none⟩,row.l.take q,row.cap⟩,s.lad,s.ln,s.lcap,s.loads.set k b,s.A⟩,by rw [<-HB.out];rfl,⟨HQ.out.may,HQ.out.A,HF.out _ rfl,?_,by simpa using HQ.out.robots⟩,rfl,by rw [Int.toNat_natCast,<-HB.out],?_⟩
           · intro y
             unfold putF
             split
             · rw [List.length_dropLast];have:=HQ.out.short x;omega
             · exact HQ.out.short y
           · have hK2:=Know.alter (hK.sub (.cons _ (List.Sublist.refl _))) (r:=rowRes row) (r':=rowRes ⟨some ⟨g,0,none⟩,row.l.take q,row.cap⟩) (m:=m) (by rw [List.getElem?_map,HR.out];rfl) (fun w S hr=>by
              rw [hlr2.out]
              unfold rowRes at hr
              rw [HV.out] at hr
              obtain ⟨h1,h2⟩:=rOw_p.1 hr
              exact rOw_p.2 ⟨h1.shrink (by have:=HK.out;rw [List.length_take] at this;omega),h2⟩)
             have:=hK2.turns
             rw [<-List.map_set] at this
             exact this
       · have hE:liftE c f s.loads k x=8:=by
          unfold liftE
          rw [if_pos ⟨h2,by omega,by omega⟩,Int.toNat_natCast,<-hv,if_pos hv0]
         have HE:=Lib.hid hE
         have e3:(v !=0)=true:=bne_iff_ne.2 hv0
         clear h1 h2 h3 h4 hE hg hu hv hln
         simp only [rSt,StV.lv] at hK
         go_enter Tryz.func67,Tryz.ntmps67
         go_wp2_with (first
          |((with_reducible refine wb 5 ?_)
            (refine wl_boxK hK rfl rfl rfl rfl ?_;clear hK;intro w5 b5 hK))
          |(go_at_call 92;(refine (hK.quiet (kA.out _ (fun r hr=>hK.get (List.mem_append_left _ (List.mem_cons_of_mem _ hr))))).mono ?_;clear hK;rintro e w' ⟨rfl,hK⟩))
          |go_big_skip
          |((with_reducible refine wt 35 ?_)
            (refine wl_ixK hK rfl rfl rfl rfl intTy.und intTy.size (h:=?_);intro b35 k35 hat35))
          |go_big_skip
          |((with_reducible refine wl ?_);refine ld ?_)
          |(with_reducible refine en ?_))
         go_ret2
         exact .inl ⟨by rw [HE.out];decide,by rw [HE.out];rfl,(hK.sub (.cons _ (List.Sublist.refl _))).turns⟩
     · have hE:liftE c f s.loads k x=1:=by unfold liftE;rw [if_neg (by omega)]
       have e1:decide (s.ln<=k)=true:=decide_eq_true (by omega)
       have e2:decide ((s.ln:Int)<=(k:Int))=true:=decide_eq_true (by omega)
       have HE:=Lib.hid hE
       clear h1 h2 h3 h4 hE hg hln
       simp only [rSt,StV.lv] at hK
       go_enter Tryz.func67,Tryz.ntmps67
       go_wp2_with (first
        |((with_reducible refine wb 5 ?_)
          (refine wl_boxK hK rfl rfl rfl rfl ?_;clear hK;intro w5 b5 hK))
        |(go_at_call 92;(refine (hK.quiet (kA.out _ (fun r hr=>hK.get (List.mem_append_left _ (List.mem_cons_of_mem _ hr))))).mono ?_;clear hK;rintro e w' ⟨rfl,hK⟩))
        |go_big_skip
        |go_big_skip
        |((with_reducible refine wl ?_);refine ld ?_)
        |(with_reducible refine en ?_))
       go_ret2
       exact .inl ⟨by rw [HE.out];decide,by rw [HE.out];rfl,(hK.sub (.cons _ (List.Sublist.refl _))).turns⟩
end Go.Proofs.YtngeeilkpnihmaaGreatDoor
namespace Go.Proofs.YtngeeilkpnihmaaGreatDoor
open Go Go.Sk Go.RowKit
set_option maxRecDepth 100000
end Go.Proofs.YtngeeilkpnihmaaGreatDoor
